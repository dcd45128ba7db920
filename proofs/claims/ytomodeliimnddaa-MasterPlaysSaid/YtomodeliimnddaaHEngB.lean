/- The engine's soundness: states of memory, one after the other. The engine's soundness: what a store, an append does to a state of memory. The engine's soundness: append. The engine's soundness: every operation. The engine's soundness: operations that make, change, call. The engine's soundness: regions in the order of the text. The engine's soundness: a state by other names. The engine's soundness: code; a function's contract from its verification condition. -/
import Derived.Laws.LoneSync
import Derived.KernelRfl
import Derived.Orders
import Derived.Test.YtomodeliimnddaaHEngA
set_option linter.unusedVariables false
set_option linter.unusedSimpArgs false
set_option autoImplicit false
namespace Go.Ab
def addM (M : Nat → Prop) (b : Nat) : Nat → Prop := fun k => M k ∨ k = b
theorem Mem.get_cons (h u : Nat) (c : Option Chunk) (m : Mem) : Mem.get ((h, c) :: m) u = if h = u then c else m.get u := by
  simp only [Mem.get]
  by_cases hu : h = u
  · subst hu; simp
  · rw [if_neg hu]
    have : Nat.beq h u = false := by
      rw [Bool.eq_false_iff]
      exact fun e => hu (Nat.eq_of_beq_eq_true e)
    simp [this]
section
variable {ι : Iota} {s : St} {w : World} {M : Nat → Prop}
theorem Iota.set_same (ι : Iota) (h : Nat) (p : Option (Nat × Nat)) : ι.set h p h = some p := by simp [Iota.set]
theorem Iota.set_other (ι : Iota) (h j : Nat) (p : Option (Nat × Nat)) (hj : j ≠ h) : ι.set h p j = ι j := by simp [Iota.set, hj]
theorem Iota.set_ext (ι : Iota) (h : Nat) (p : Option (Nat × Nat)) (hn : ι h = none) : ∀ j q, ι j = some q → ι.set h p j = some q := fun j q hq => by
  by_cases hj : j = h
  · subst hj; rw [hn] at hq; cases hq
  · rw [ι.set_other h j p hj]; exact hq
theorem Imm.alloc (o : Obj) : Imm w M (w.alloc o) (addM M w.heap.size) :=
  ⟨by simp, fun b hb hm => ⟨fun h => by
      rcases h with h | h
      · exact hm h
      · omega, heap_alloc_old w o hb⟩, fun b hb => by unfold World.shape?; rw [heap_alloc_old w o hb]⟩
theorem Imm.drew : Imm w M w.drew M := ⟨Nat.le_refl _, fun b hb hm => ⟨hm, rfl⟩, fun b hb => rfl⟩
theorem Rep.alloc {cs : Array Value} {T : Nat} {h : Nat} (hR : Rep ι s w M) (hn : ι h = none) (hlt : h < s.next) (hg : s.get h = none) : Rep (ι.set h (some (w.heap.size, 0))) s (w.alloc (.cells cs T)) (addM M w.heap.size) := by
  have hi := Imm.alloc (w := w) (M := M) (.cells cs T)
  have hx := ι.set_ext h (some (w.heap.size, 0)) hn
  refine ⟨fun j hj => by rw [ι.set_other _ _ _ (by omega)]; exact hR.fresh j hj, fun j c hc => ?_, fun j j' c c' p p' hc hc' hne hp hp' => ?_, fun b hb => ?_⟩
  · have hne : j ≠ h := fun e => by subst e; rw [hg] at hc; cases hc
    rw [ι.set_other _ _ _ hne]
    rcases hR.own j c hc with h1 | ⟨b, base, h1, h2, h3⟩
    · exact .inl h1
    · exact .inr ⟨b, base, h1, .inl h2, h3.mono hi hx (heap_alloc_old w _ (hR.lt b h2))⟩
  · have hne1 : j ≠ h := fun e => by subst e; rw [hg] at hc; cases hc
    have hne2 : j' ≠ h := fun e => by subst e; rw [hg] at hc'; cases hc'
    rw [ι.set_other _ _ _ hne1] at hp
    rw [ι.set_other _ _ _ hne2] at hp'
    exact hR.inj j j' c c' p p' hc hc' hne hp hp'
  · rcases hb with hb | hb
    · have := hR.lt b hb; simp; omega
    · subst hb; simp
theorem St.get_cons (n h u : Nat) (c : Option Chunk) (m : Mem) : (St.mk n ((h, c) :: m)).get u = if h = u then c else (St.mk n m).get u := Mem.get_cons h u c m
theorem Rep.next (hR : Rep ι s w M) {n : Nat} (hn : s.next ≤ n) : Rep ι ⟨n, s.m⟩ w M :=
  ⟨fun j hj => hR.fresh j (Nat.le_trans hn hj), hR.own, hR.inj, hR.lt⟩
theorem Rep.none_of_get (hR : Rep ι s w M) {h : Nat} {c : Chunk} (hg : s.get h = some c) : h < s.next := by
  rcases Nat.lt_or_ge h s.next with hl | hl
  · exact hl
  · have := hR.fresh h hl
    rcases hR.own h c hg with ⟨h1, _⟩ | ⟨b, base, h1, _⟩ <;> rw [this] at h1 <;> cases h1
theorem Rep.drop (hR : Rep ι s w M) (h : Nat) : Rep ι ⟨s.next, (h, none) :: s.m⟩ w M := by
  have key : ∀ j c, (St.mk s.next ((h, none) :: s.m)).get j = some c → s.get j = some c := fun j c hc => by
    rw [St.get_cons] at hc
    split at hc
    · cases hc
    · exact hc
  exact ⟨hR.fresh, fun j c hc => hR.own j c (key j c hc), fun j j' c c' p p' hc hc' => hR.inj j j' c c' p p' (key j c hc) (key j' c' hc'), hR.lt⟩
theorem Rep.put (hR : Rep ι s w M) {h : Nat} {c : Chunk} (hp : (ι h = some none ∧ c.size = 0) ∨ ∃ b base, ι h = some (some (b, base)) ∧ M b ∧ CRel ι w M c b base ∧ ∀ j c' p, j ≠ h → s.get j = some c' → ι j = some (some p) → p.1 ≠ b) :
    Rep ι ⟨s.next, (h, some c) :: s.m⟩ w M := by
  refine ⟨hR.fresh, fun j c' hc => ?_, fun j j' c1 c2 p p' hc hc' hne hp1 hp2 => ?_, hR.lt⟩
  · rw [St.get_cons] at hc
    split at hc
    · rename_i he
      subst he
      cases hc
      rcases hp with h1 | ⟨b, base, h1, h2, h3, _⟩
      · exact .inl h1
      · exact .inr ⟨b, base, h1, h2, h3⟩
    · exact hR.own j c' hc
  · rw [St.get_cons] at hc hc'
    split at hc <;> split at hc'
    · omega
    · rename_i he he'
      subst he
      rcases hp with ⟨h1, _⟩ | ⟨b, base, h1, h2, h3, h4⟩
      · rw [h1] at hp1; cases hp1
      · rw [h1] at hp1
        simp only [Option.some.injEq] at hp1
        have := h4 j' c2 p' (fun e => he' e.symm) hc' hp2
        subst hp1
        exact fun e => this e.symm
    · rename_i he he'
      subst he'
      rcases hp with ⟨h1, _⟩ | ⟨b, base, h1, h2, h3, h4⟩
      · rw [h1] at hp2; cases hp2
      · rw [h1] at hp2
        simp only [Option.some.injEq] at hp2
        have := h4 j c1 p (fun e => he e.symm) hc hp1
        subst hp2
        exact this
    · exact hR.inj j j' c1 c2 p p' hc hc' hne hp1 hp2
theorem Rep.drew (hR : Rep ι s w M) : Rep ι s w.drew M :=
  ⟨hR.fresh, fun j c hc => by
    rcases hR.own j c hc with h1 | ⟨b, base, h1, h2, h3⟩
    · exact .inl h1
    · exact .inr ⟨b, base, h1, h2, h3.mono .drew (fun _ _ h => h) rfl⟩, hR.inj, hR.lt⟩
theorem Go.drew {n0 : Nat} (hn : n0 ≤ s.next) : Go n0 ι s w M ι s w.drew M :=
  ⟨Nat.le_refl _, rfl, rfl, rfl, fun _ _ _ => rfl, fun _ _ => rfl, fun _ _ h => h, fun _ h _ => h, fun _ _ h => h, hn, fun _ _ => rfl⟩
theorem Go.alloc {n0 h : Nat} {o : Obj} {p : Option (Nat × Nat)} (hn : n0 ≤ s.next) (hh : n0 ≤ h) (hg : s.get h = none) (hi : ι h = none) : Go n0 ι s w M (ι.set h p) s (w.alloc o) (addM M w.heap.size) :=
  ⟨by simp, rfl, rfl, rfl, fun b hb _ => heap_alloc_old w o hb, fun b hb => by unfold World.shape?; rw [heap_alloc_old w o hb],
   fun b hb hm => by
    rcases hm with hm | hm
    · exact hm
    · omega,
   fun b hm _ => .inl hm,
   fun b hb ho => by
    obtain ⟨j, c, base, h1, h2⟩ := ho
    have hne : j ≠ h := fun e => by subst e; rw [hg] at h1; cases h1
    rw [ι.set_other _ _ _ hne] at h2
    exact ⟨j, c, base, h1, h2⟩,
   hn, fun j hj => ι.set_other h j p (by omega)⟩
theorem Go.names {n0 : Nat} {s' : St} (hn : n0 ≤ s'.next) (ho : ∀ b, Own ι s' b → Own ι s b) : Go n0 ι s w M ι s' w M :=
  ⟨Nat.le_refl _, rfl, rfl, rfl, fun _ _ _ => rfl, fun _ _ => rfl, fun _ _ h => h, fun _ h _ => h, fun b _ h => ho b h, hn, fun _ _ => rfl⟩
theorem Imm.set {b : Nat} {w' : World} (hM : M b) (hs : w'.heap.size = w.heap.size) (hb : ∀ k, k ≠ b → w'.heap[k]? = w.heap[k]?) (hsh : ∀ k, w'.shape? k = w.shape? k) : Imm w M w' M :=
  ⟨by omega, fun k hk hm => ⟨hm, hb k fun e => hm (e ▸ hM)⟩, fun k _ => hsh k⟩
theorem Rep.set {h b base : Nat} {c c' : Chunk} {w' : World} (hR : Rep ι s w M) (hg : s.get h = some c) (hi : ι h = some (some (b, base))) (hs : w'.heap.size = w.heap.size) (hb : ∀ k, k ≠ b → w'.heap[k]? = w.heap[k]?) (hsh : ∀ k, w'.shape? k = w.shape? k)
    (hC : CRel ι w' M c' b base) : Rep ι ⟨s.next, (h, some c') :: s.m⟩ w' M := by
  have hMb : M b := hR.ownM ⟨h, c, base, hg, hi⟩
  have hI := Imm.set (w := w) hMb hs hb hsh
  refine ⟨hR.fresh, fun j c1 hc => ?_, fun j j' c1 c2 p p' hc hc' hne hp hp' => ?_, fun k hk => by rw [hs]; exact hR.lt k hk⟩
  · rw [St.get_cons] at hc
    split at hc
    · rename_i he
      subst he
      cases hc
      exact .inr ⟨b, base, hi, hMb, hC⟩
    · rename_i he
      rcases hR.own j c1 hc with h1 | ⟨b1, base1, h1, h2, h3⟩
      · exact .inl h1
      · refine .inr ⟨b1, base1, h1, h2, h3.mono hI (fun _ _ h => h) (hb b1 ?_)⟩
        have := hR.inj h j c c1 _ _ hg hc he hi h1
        exact fun e => this e.symm
  · have key : ∀ j c, (St.mk s.next ((h, some c') :: s.m)).get j = some c → ∃ c1, s.get j = some c1 := fun j c hc => by
      rw [St.get_cons] at hc
      split at hc
      · rename_i he; subst he; exact ⟨_, hg⟩
      · exact ⟨_, hc⟩
    obtain ⟨d, hd⟩ := key j c1 hc
    obtain ⟨d', hd'⟩ := key j' c2 hc'
    exact hR.inj j j' d d' p p' hd hd' hne hp hp'
theorem Go.set {n0 h b base : Nat} {c c' : Chunk} {w' : World} (hR : Rep ι s w M) (hn : n0 ≤ s.next) (hg : s.get h = some c) (hi : ι h = some (some (b, base))) (hs : w'.heap.size = w.heap.size) (hb : ∀ k, k ≠ b → w'.heap[k]? = w.heap[k]?) (hsh : ∀ k, w'.shape? k = w.shape? k)
    (ht : w'.tape = w.tape) (ho : w'.os = w.os) (hu : w'.output = w.output) : Go n0 ι s w M ι ⟨s.next, (h, some c') :: s.m⟩ w' M :=
  ⟨by omega, ht, ho, hu, fun k hk hno => hb k fun e => hno (e ▸ ⟨h, c, base, hg, hi⟩), fun k _ => hsh k, fun _ _ h => h, fun _ h _ => h, fun k _ ho => by
    obtain ⟨j, c1, base1, h1, h2⟩ := ho
    rw [St.get_cons] at h1
    split at h1
    · rename_i he; subst he; exact ⟨_, _, _, hg, h2⟩
    · exact ⟨_, _, _, h1, h2⟩, hn, fun _ _ => rfl⟩
end
end Go.Ab
set_option linter.unusedVariables false
set_option linter.unusedSimpArgs false
set_option autoImplicit false
namespace Go.Ab
section
variable {P : Program} {ι : Iota} {s : St} {w : World} {M : Nat → Prop}
theorem Rep.hget (hR : Rep ι s w M) : HGet ι w M s.get := fun h c p hg hi => by
  rcases hR.own h c hg with ⟨h1, h2⟩ | ⟨b, base, h1, h2, h3⟩
  · rw [hi] at h1; cases h1; exact .inl ⟨rfl, h2⟩
  · rw [hi] at h1; cases h1; exact .inr ⟨b, base, rfl, h3⟩
theorem flat_one {v : AV} (h : v.flat.all AV.one = true) : v.one = true ∨ v.isAgg = true := by
  cases v <;> first | exact .inr rfl | exact .inl (by simpa [AV.flat] using h)
theorem set_core {n0 h off b base : Nat} {l : List AV} {vs : List Value} {c c' : Chunk} (hR : Rep ι s w M) (hn : n0 ≤ s.next) (hi : ι h = some (some (b, base))) (hg : s.get h = some c) (hs : vs.length = l.length)
    (hcs : ∀ j, j < l.length → VRel ι w M (l.getD j .undef) (vs.getD j default)) (h3 : off + l.length ≤ c.size) (p1 : c'.size = c.size)
    (p2 : ∀ j, j < c.size → c'.get j = if off ≤ j ∧ j < off + l.length then l.getD (j - off) .undef else c.get j) :
    Rep ι (s.app (.set h c')) (w.setCells b (base + off) vs) M ∧ Go n0 ι s w M ι (s.app (.set h c')) (w.setCells b (base + off) vs) M := by
  rcases hR.hget h c _ hg hi with ⟨h4, _⟩ | ⟨b', base', h4, cs, T, fr, k1, k2, k3, k4⟩
  · cases h4
  simp only [Option.some.injEq, Prod.mk.injEq] at h4
  obtain ⟨rfl, rfl⟩ := h4
  obtain ⟨e1, e2, e3, e4⟩ := setCells_same vs b (base + off) w
  have hsh := fun k => setCells_shape vs b (base + off) k w cs T fr k1
  have hoth := fun k hk => setCells_other vs b (base + off) k w hk
  refine ⟨?_, Go.set hR hn hg hi e1 hoth hsh e2 e3 e4⟩
  have hMb : M b := hR.ownM ⟨h, c, base, hg, hi⟩
  have hI := Imm.set (w := w) hMb e1 hoth hsh
  refine Rep.set hR hg hi e1 hoth hsh ⟨_, T, fr, setCells_heap _ _ _ _ _ _ _ k1, fun i hi' => k2 i (by rwa [putA_size] at hi'), by rw [putA_size]; omega, fun j hj => ?_⟩
  rw [p1] at hj
  rw [p2 j hj, putA_get _ _ _ _ (by omega)]
  by_cases hb : off ≤ j ∧ j < off + l.length
  · rw [if_pos hb, if_pos (by omega), show base + j - (base + off) = j - off by omega]
    exact (hcs (j - off) (by omega)).mono hI (fun _ _ h => h)
  · rw [if_neg hb, if_neg (by omega)]
    exact (k4 j hj).mono hI (fun _ _ h => h)
theorem store_core {n0 t sz h off : Nat} {x y : AV} {X Y : Value} {c c' : Chunk} (hR : Rep ι s w M) (hn : n0 ≤ s.next) (hX : VRel ι w M (.ptr h off) X) (hY : VRel ι w M y Y) (hg : s.get h = some c) (hz : sizeP P t = some sz)
    (h1 : y.flat.all AV.one = true) (h2 : y.flat.length = sz) (h3 : off + sz ≤ c.size) (p1 : c'.size = c.size)
    (p2 : ∀ j, j < c.size → c'.get j = if off ≤ j ∧ j < off + y.flat.length then y.flat.getD (j - off) .undef else c.get j) :
    ∃ w', (Instr.storeAt t X Y).run P w = .ok () w' ∧ Rep ι (s.app (.set h c')) w' M ∧ Go n0 ι s w M ι (s.app (.set h c')) w' M := by
  obtain ⟨b, base, hi, rfl⟩ := hX.ptr_inv
  rcases hR.hget h c _ hg hi with ⟨h4, _⟩ | ⟨b', base', h4, cs, T, fr, k1, k2, k3, k4⟩
  · cases h4
  simp only [Option.some.injEq, Prod.mk.injEq] at h4
  obtain ⟨rfl, rfl⟩ := h4
  obtain ⟨hs, hcs⟩ := hY.cells (flat_one h1)
  have hone : ∀ u ∈ Y.cells.toList, u.oneCell' = true := by
    intro u hu
    obtain ⟨j, hj, rfl⟩ := List.mem_iff_getElem.1 hu
    have hj' : j < y.flat.length := by simp at hj; omega
    have hv := hcs j hj'
    have hy1 : (y.flat.getD j .undef).one = true := by
      have := (List.all_eq_true.1 h1) (y.flat[j]) (List.getElem_mem hj')
      simpa [List.getD_eq_getElem?_getD, hj'] using this
    have := (hv.one hy1).1
    have hj2 : j < Y.cells.size := by simpa using hj
    simpa [Array.getD, hj2] using this
  have hrun := storeVar_run (P := P) (t := t) (V := Y) (b := b) (o := base + off) hz k1 k2 (by omega) (by omega) hone
  exact ⟨_, hrun, set_core hR hn hi hg (by simpa using hs) (fun j hj => by simpa [List.getD_eq_getElem?_getD, Array.getD_eq_getD_getElem?] using hcs j hj) (by omega) p1 p2⟩
theorem store_sound {n0 t sz h off : Nat} {x y : AV} {X Y : Value} {c c' : Chunk} (hR : Rep ι s w M) (hn : n0 ≤ s.next) (hX : VRel ι w M (.ptr h off) X) (hY : VRel ι w M y Y) (hg : s.get h = some c) (hz : sizeP P t = some sz)
    (h1 : y.flat.all AV.one = true) (h2 : y.flat.length = sz) (h3 : off + sz ≤ c.size) (hp : c.put off y.flat = some c') :
    ∃ w', (Instr.storeAt t X Y).run P w = .ok () w' ∧ Rep ι (s.app (.set h c')) w' M ∧ Go n0 ι s w M ι (s.app (.set h c')) w' M := by
  obtain ⟨p1, p2⟩ := put_spec hp (by omega)
  exact store_core (x := x) hR hn hX hY hg hz h1 h2 h3 p1 p2
theorem storeA_sound {n0 t sz : Nat} {x y v : AV} {X Y : Value} {e : Eff} (hR : Rep ι s w M) (hn : n0 ≤ s.next) (hX : VRel ι w M x X) (hY : VRel ι w M y Y) (hz : sizeP P t = some sz)
    (h : storeA s.get sz x y = .ok true v e) : v = .undef ∧
    ∃ w', (Instr.storeAt t X Y).run P w = .ok () w' ∧ Rep ι (s.app e) w' M ∧ Go n0 ι s w M ι (s.app e) w' M := by
  unfold storeA at h
  split at h
  · rename_i hh off
    split at h
    · rename_i c hg
      split at h
      · rename_i m k' g'
        split at h
        · rename_i n k g
          simp only [Res.ok.injEq, Bool.and_eq_true, decide_eq_true_eq] at h
          obtain ⟨⟨h1, h2⟩, rfl, rfl⟩ := h
          obtain rfl := Nat.eq_of_beq_eq_true h1
          refine ⟨rfl, ?_⟩
          obtain ⟨q1, q2⟩ := aggI_flat m k' g'
          exact store_core (x := .undef) hR hn hX hY hg hz q2 q1 h2 over_spec.1 over_spec.2
        · simp at h
      · split at h
        · rename_i c' hp
          simp only [Res.ok.injEq, Bool.and_eq_true, decide_eq_true_eq] at h
          obtain ⟨⟨⟨h1, h2⟩, h3⟩, rfl, rfl⟩ := h
          exact ⟨rfl, store_sound (x := .undef) hR hn hX hY hg hz h1 (Nat.eq_of_beq_eq_true h2) h3 hp⟩
        · simp at h
    · simp at h
  · simp at h
theorem Imm.undrew : Imm w.drew M w M := ⟨Nat.le_refl _, fun b hb hm => ⟨hm, rfl⟩, fun b hb => rfl⟩
/-! ### append -/
def Src (ι : Iota) (w : World) (M : Nat → Prop) (es : Nat) (r : Chunk) (n : Nat) (V : Value) : Prop :=
  r.size = n * es ∧ ((n = 0 ∧ ∃ A c, V = .slice A 0 c) ∨ ∃ (a : Addr) (c : Nat) (g : Nat → Value), V = .slice (some a) n c ∧ a.spot = none ∧
    (∀ j, j < n * es → w.cell? ⟨a.block, a.off + j, none⟩ = some (g j)) ∧ ∀ j, j < n * es → VRel ι w M (r.get j) (g j) ∧ (g j).oneCell' = true)
theorem rowFrom_src {es n : Nat} {d : AV} {D : Value} {r : Chunk} {get : Nat → Option Chunk} (hD : VRel ι w M d D) (hG : HGet ι w M get) (h : rowFrom d es get = some (true, r)) (hl : lenA d = some n) : Src ι w M es r n D := by
  by_cases hraw : ∃ v, d = .raw v
  · obtain ⟨v, rfl⟩ := hraw
    obtain ⟨a, c, rfl, rfl⟩ := lenA_raw hl
    obtain rfl := hD.raw_inv
    simp only [rowFrom, Option.some.injEq, Prod.mk.injEq, true_and] at h
    subst h
    exact ⟨by simp [Chunk.size], .inl ⟨rfl, _, _, rfl⟩⟩
  cases d <;> first | (exfalso; exact hraw ⟨_, rfl⟩) | skip
  all_goals simp only [rowFrom, reduceCtorEq] at h
  all_goals simp only [lenA, Option.some.injEq, reduceCtorEq] at hl
  all_goals subst hl
  case nils =>
    simp only [Option.some.injEq, Prod.mk.injEq, true_and] at h
    subst h
    obtain rfl := hD.nils_inv
    exact ⟨by simp [Chunk.size], .inl ⟨rfl, _, _, rfl⟩⟩
  case roI k l =>
    simp only [Option.some.injEq, Prod.mk.injEq] at h
    obtain ⟨h1, rfl⟩ := h
    obtain rfl : es = 1 := by simpa using h1
    refine ⟨by simp [Chunk.size], ?_⟩
    rcases hD.rov_inv rfl with ⟨hn, rfl⟩ | ⟨a, cap, g, rfl, hs0, hn, he, hc, hg⟩
    · exact .inl ⟨hn, _, _, rfl⟩
    · rcases Nat.eq_zero_or_pos l.length with h0 | h0
      · exact .inl ⟨h0, _, _, by rw [h0]⟩
      obtain ⟨hs, hM, hb⟩ := hs0 h0
      exact .inr ⟨a, cap, g, rfl, hs, hc, fun j hj => ⟨.g _ _ (hg j hj), ((VRel.g (ι := ι) _ _ (hg j hj)).one rfl).1⟩⟩
  case roB l =>
    simp only [Option.some.injEq, Prod.mk.injEq] at h
    obtain ⟨h1, rfl⟩ := h
    obtain rfl : es = 1 := by simpa using h1
    refine ⟨by simp [Chunk.size], ?_⟩
    rcases hD.rov_inv rfl with ⟨hn, rfl⟩ | ⟨a, cap, g, rfl, hs0, hn, he, hc, hg⟩
    · exact .inl ⟨hn, _, _, rfl⟩
    · rcases Nat.eq_zero_or_pos l.length with h0 | h0
      · exact .inl ⟨h0, _, _, by rw [h0]⟩
      obtain ⟨hs, hM, hb⟩ := hs0 h0
      exact .inr ⟨a, cap, g, rfl, hs, hc, fun j hj => ⟨.g _ _ (hg j hj), ((VRel.g (ι := ι) _ _ (hg j hj)).one rfl).1⟩⟩
  case sl e hh o m =>
    have key : ∀ (c : Chunk) (off : Nat), get hh = some c → e = es → o + m * es ≤ c.size → r.size = m * es → (∀ j, j < m * es → r.get j = c.get (o + j) ∧ (r.get j).one = true) → Src ι w M es r m D := by
      intro c off hg hee hle hsz hcell
      subst hee
      refine ⟨hsz, ?_⟩
      rcases hD.sl_inv with ⟨b, base, oo, cap, T, N, hi', ho, hl, hs, hn, rfl⟩ | ⟨hv, rfl, rfl⟩
      · rcases Nat.eq_zero_or_pos m with h0 | h0
        · subst h0; exact .inl ⟨rfl, _, _, rfl⟩
        · rcases hG hh _ _ hg hi' with ⟨h5, _⟩ | ⟨b', base', h5, hC⟩
          · cases h5
          · simp only [Option.some.injEq, Prod.mk.injEq] at h5
            obtain ⟨rfl, rfl⟩ := h5
            have ho' : oo = base + o := by
              rcases ho with h | h
              · exact h
              · omega
            subst ho'
            have hcc : ∀ j, j < m * e → ∃ V, w.cell? ⟨b, base + o + j, none⟩ = some V ∧ VRel ι w M (c.get (o + j)) V := fun j hj => by
              have := hC.cell (j := o + j) (by omega)
              rwa [← Nat.add_assoc] at this
            let g : Nat → Value := fun j => if hj : j < m * e then (hcc j hj).choose else default
            refine .inr ⟨_, cap, g, rfl, rfl, fun j hj => ?_, fun j hj => ?_⟩
            · simp only [g, hj, dif_pos]; exact (hcc j hj).choose_spec.1
            · have : VRel ι w M (r.get j) (g j) := by
                rw [(hcell j hj).1]
                simp only [g, hj, dif_pos]
                exact (hcc j hj).choose_spec.2
              exact ⟨this, (this.one (hcell j hj).2).1⟩
      · exact .inl ⟨rfl, _, _, rfl⟩
    cases hg : get hh with
    | none => simp [hg] at h
    | some c =>
      cases c with
      | rowI k l =>
        simp only [hg, Option.some.injEq, Prod.mk.injEq, Bool.and_eq_true, decide_eq_true_eq] at h
        obtain ⟨⟨⟨h1, h2⟩, h3⟩, rfl⟩ := h
        obtain rfl : es = 1 := by simpa using h2
        exact key _ o hg (by simpa using h1) (by simp only [Chunk.size]; omega) (by simp [Chunk.size]; omega) (fun j hj => ⟨by simp only [Chunk.get]; rw [getD_drop_take _ _ _ _ _ (by omega)], rfl⟩)
      | rowB l =>
        simp only [hg, Option.some.injEq, Prod.mk.injEq, Bool.and_eq_true, decide_eq_true_eq] at h
        obtain ⟨⟨⟨h1, h2⟩, h3⟩, rfl⟩ := h
        obtain rfl : es = 1 := by simpa using h2
        exact key _ o hg (by simpa using h1) (by simp only [Chunk.size]; omega) (by simp [Chunk.size]; omega) (fun j hj => ⟨by simp only [Chunk.get]; rw [getD_drop_take _ _ _ _ _ (by omega)], rfl⟩)
      | obj l =>
        simp only [hg, Option.some.injEq, Prod.mk.injEq, Bool.and_eq_true, decide_eq_true_eq] at h
        obtain ⟨⟨⟨h1, h3⟩, h4⟩, rfl⟩ := h
        refine key _ o hg (by simpa using h1) h3 (by simp [Chunk.size]; omega) (fun j hj => ⟨by simp only [Chunk.get]; rw [getD_drop_take _ _ _ _ _ hj], ?_⟩)
        have hlen : j < ((l.drop o).take (m * es)).length := by simp; omega
        have := (List.all_eq_true.1 h4) _ (List.getElem_mem hlen)
        simp only [Chunk.get]
        rwa [show ((l.drop o).take (m * es)).getD j .undef = ((l.drop o).take (m * es))[j] by rw [List.getD_eq_getElem?_getD, List.getElem?_eq_getElem hlen]; rfl]
      | fn n f => simp [hg] at h
      | blk n k g =>
        simp only [hg, Option.some.injEq, Prod.mk.injEq, Bool.and_eq_true, decide_eq_true_eq] at h
        obtain ⟨⟨⟨⟨h1, h2⟩, h3⟩, h4⟩, rfl⟩ := h
        obtain rfl : es = 1 := by simpa using h2
        refine key _ o hg (by simpa using h1) (by simp only [Chunk.size]; omega) (by simp [Chunk.size]) (fun j hj => ⟨?_, rfl⟩)
        have hj' : j < m := by omega
        have h5 := (List.all_eq_true.1 h4) j (by simpa using hj')
        simp only [decide_eq_true_eq] at h5
        simp [Chunk.get, h5, List.getD_eq_getElem?_getD, hj']
theorem getD_append {α : Type} (l m : List α) (j : Nat) (d : α) : (l ++ m).getD j d = if j < l.length then l.getD j d else m.getD (j - l.length) d := by
  by_cases h : j < l.length
  · simp [List.getD_eq_getElem?_getD, List.getElem?_append, h]
  · simp [List.getD_eq_getElem?_getD, List.getElem?_append, h]
theorem cat_spec {a b c : Chunk} (h : a.cat b = some c) : c.size = a.size + b.size ∧ ∀ j, j < c.size → c.get j = if j < a.size then a.get j else b.get (j - a.size) := by
  unfold Chunk.cat at h
  split at h
  · rename_i k l k' m
    split at h
    · rename_i hk
      subst hk
      simp only [Option.some.injEq] at h
      subst h
      refine ⟨by simp [Chunk.size], fun j hj => ?_⟩
      simp only [Chunk.get, Chunk.size, getD_append]
      by_cases hl : j < l.length <;> simp [hl]
    · simp at h
  · rename_i l m
    simp only [Option.some.injEq] at h
    subst h
    refine ⟨by simp [Chunk.size], fun j hj => ?_⟩
    simp only [Chunk.get, Chunk.size, getD_append]
    by_cases hl : j < l.length <;> simp [hl]
  · rename_i l m
    simp only [Option.some.injEq] at h
    subst h
    refine ⟨by simp [Chunk.size], fun j hj => ?_⟩
    simp only [Chunk.get, Chunk.size, getD_append]
    by_cases hl : j < l.length <;> simp [hl]
  · rename_i k l
    simp only [Option.some.injEq] at h
    subst h
    exact ⟨by simp [Chunk.size], fun j hj => by rw [if_pos hj]⟩
  · rename_i l
    simp only [Option.some.injEq] at h
    subst h
    exact ⟨by simp [Chunk.size], fun j hj => by rw [if_pos hj]⟩
  · simp only [Option.some.injEq] at h
    subst h
    exact ⟨by simp [Chunk.size], fun j hj => by simp [Chunk.size]⟩
  · simp at h
theorem first_run {es n : Nat} {r : Chunk} {V : Value} (h : Src ι w M es r n V) : ∃ cs : Array Value, (Builtin.firstCells es n V).run P w = .ok cs w ∧ cs.size = n * es ∧ (∀ j, j < n * es → VRel ι w M (r.get j) (cs.getD j default)) ∧ ∀ u ∈ cs.toList, u.oneCell' = true := by
  rcases h.2 with ⟨rfl, A, c, rfl⟩ | ⟨a, c, g, rfl, hs, hc, hg⟩
  · refine ⟨#[], ?_, by simp, fun j hj => by simp at hj, by simp⟩
    cases A with
    | none => simp [Builtin.firstCells]
    | some a => simp [Builtin.firstCells, loadCells, loadCellsFrom]
  · refine ⟨((List.range (n * es)).map g).toArray, ?_, ?_, fun j hj => ?_, fun u hu => ?_⟩
    · simp only [Builtin.firstCells]
      exact run_loadCells (P := P) w a (n * es) g (fun j hj => by rw [add_eq a j hs]; exact hc j hj)
    · simp
    · rw [getD_range_map _ _ _ hj]; exact (hg j hj).1
    · simp at hu
      obtain ⟨j, hj, rfl⟩ := hu
      exact (hg j hj).2
theorem bytesP_some {t b : Nat} (h : bytesP P t = some b) : ∃ i, P.info? t = some i ∧ i.bytes = b := by
  unfold bytesP at h
  obtain ⟨i, h1, h2⟩ := Option.map_eq_some_iff.1 h
  exact ⟨i, h1, h2⟩
def Out (P : Program) (ι : Iota) (w : World) (M : Nat → Prop) (o : Sem Value) (e es n m cap : Nat) (A : Option Addr) (r1 r2 : Chunk) : Prop :=
    ∃ N : Array Value, N.size = m * es ∧ (∀ j, j < m * es → VRel ι w M (r2.get j) (N.getD j default)) ∧ (∀ u ∈ N.toList, u.oneCell' = true) ∧
    ((n + m ≤ cap ∧ ∀ R, (match A with
        | some a => (storeCells (a.add (n * es)) N.toList).run P w
        | none => Result.ok () w) = R → o.run P w = R.andThen fun _ w' => .ok (.slice A (n + m) cap) w') ∨
     (cap < n + m ∧ ∃ (nc : Nat) (O : Array Value), n + m ≤ nc ∧ O.size = nc * es ∧ (∀ j, j < n * es → VRel ι w M (r1.get j) (O.getD j default)) ∧ (∀ j, j < m * es → VRel ι w M (r2.get j) (O.getD (n * es + j) default)) ∧
        o.run P w = .ok (.slice (some ⟨w.heap.size, 0, none⟩) (n + m) nc) ((w.drew).alloc (.cells O e))))
theorem append_run {t t' ty e es b n m cap : Nat} {A : Option Addr} {Y : Value} {z : List (Nat × AV)} {r1 r2 : Chunk} (hu : P.underlying t = some (.slice e)) (hu' : ∃ e', P.underlying t' = some (.slice e')) (hz : sizeP P e = some es) (hb : bytesP P e = some b) (h0 : 0 < b)
    (hzr : zrl P e = some z) (hzl : rlLen z = es) (hX : Src ι w M es r1 n (.slice A n cap)) (hY : Src ι w M es r2 m Y) (hYl : ∃ B c, Y = .slice B m c) (hle : n ≤ cap) (hfit : (n + m) * b ≤ 140737488355328)
    (hAn : A = none → cap = 0) :
    Out P ι w M (Builtin.append_ #[t, t'] ty #[.slice A n cap, Y]) e es n m cap A r1 r2 := by
  unfold Out
  obtain ⟨B, c, rfl⟩ := hYl
  obtain ⟨e', hu'⟩ := hu'
  obtain ⟨N, hN1, hN2, hN3, hN4⟩ := first_run (P := P) hY
  obtain ⟨i, hi1, hi2⟩ := bytesP_some hb
  refine ⟨N, hN2, hN3, hN4, ?_⟩
  rcases Nat.lt_or_ge cap (n + m) with hc | hc
  · refine .inr ⟨hc, ?_⟩
    have hX' : Src ι w.drew M es r1 n (.slice A n cap) := by
      refine ⟨hX.1, ?_⟩
      rcases hX.2 with h | ⟨a, c, g, h1, h2, h3, h4⟩
      · exact .inl h
      · exact .inr ⟨a, c, g, h1, h2, h3, fun j hj => ⟨(h4 j hj).1.mono .drew (fun _ _ h => h), (h4 j hj).2⟩⟩
    have hY' : Src ι w.drew M es r2 m (.slice B m c) := by
      refine ⟨hY.1, ?_⟩
      rcases hY.2 with h | ⟨a, c, g, h1, h2, h3, h4⟩
      · exact .inl h
      · exact .inr ⟨a, c, g, h1, h2, h3, fun j hj => ⟨(h4 j hj).1.mono .drew (fun _ _ h => h), (h4 j hj).2⟩⟩
    obtain ⟨O1, hO1, hO2, hO3, _⟩ := first_run (P := P) hX'
    obtain ⟨N', hN1', hN2', hN3', _⟩ := first_run (P := P) hY'
    obtain ⟨Z, hZ, _, hZ2, hZ3⟩ := zrl_run (ι := ι) (M := M) (w := w.drew) hzr
    let nc := Question.cut (.appendCap (n + m) cap e) (w.tape w.drawn (.appendCap (n + m) cap e))
    have hnc : n + m ≤ nc := by simp only [nc, Question.cut]; omega
    have hcap : ¬ (281474976710656 < Builtin.nextslicecap (n + m) cap * i.bytes) := by
      have := growslice_fits (need := n + m) (old := cap) (bytes := i.bytes) hc (by rw [hi2]; exact hfit)
      omega
    have hti : ∀ w, (typeInfo e).run P w = .ok i w := fun w => by simp [typeInfo, hi1]
    obtain ⟨i', hi3, hi4⟩ := sizeP_some hz
    rw [hi1] at hi3
    cases hi3
    have hzs : Z.cells.size = es := by omega
    have hO : (O1 ++ N' ++ Builtin.zeroCells Z.cells (nc - (n + m))).size = nc * es := by
      simp only [Array.size_append, size_zeroCells, hzs, hO2, hN2', ← Nat.add_mul]
      congr 1
      omega
    refine ⟨nc, O1 ++ N' ++ Builtin.zeroCells Z.cells (nc - (n + m)), hnc, hO, fun j hj => ?_, fun j hj => ?_, ?_⟩
    · have h1 : (O1 ++ N' ++ Builtin.zeroCells Z.cells (nc - (n + m))).getD j default = O1.getD j default := by
        have h2 : j < O1.size := by omega
        simp [Array.getD_eq_getD_getElem?, Array.getElem?_append, h2]
      rw [h1]
      have := hO3 j hj
      exact this.mono Imm.undrew (fun _ _ h => h)
    · have h1 : (O1 ++ N' ++ Builtin.zeroCells Z.cells (nc - (n + m))).getD (n * es + j) default = N'.getD j default := by
        have h2 : n * es + j < O1.size + N'.size := by omega
        have h3 : ¬ n * es + j < O1.size := by omega
        simp only [Array.getD_eq_getD_getElem?, Array.getElem?_append, Array.size_append, h2, if_true, h3, if_false]
        congr 2
        omega
      rw [h1]
      have := hN3' j hj
      exact this.mono Imm.undrew (fun _ _ h => h)
    · have hnot : ¬ (n + m ≤ cap) := by omega
      have hb0 : ¬ (i.bytes = 0) := by omega
      simp [Builtin.append_, run_underlying hu, run_underlying hu', sizeOf, typeInfo, hi1, Builtin.lenOf, hnot, hcap, hi4, hO1, hN1', hb0]
      rw [if_neg (by simp [Question.forced]), hZ, Result.andThen_ok, newRow_run, Result.andThen_ok]
      rfl
  · refine .inl ⟨hc, fun R hR => ?_⟩
    obtain ⟨i', hi3, hi4⟩ := sizeP_some hz
    rw [hi1] at hi3
    cases hi3
    cases A with
    | none =>
      simp only at hR
      subst hR
      simp [Builtin.append_, run_underlying hu, run_underlying hu', sizeOf, typeInfo, hi1, Builtin.lenOf, hc, hi4, hN1]
    | some a =>
      simp only at hR
      subst hR
      simp [Builtin.append_, run_underlying hu, run_underlying hu', sizeOf, typeInfo, hi1, Builtin.lenOf, hc, hi4, hN1]
theorem append_run0 {t t' ty e es b n m cap : Nat} {kk k' : IntKind} {A : Option Addr} {z : List (Nat × AV)} {r1 : Chunk} {rk : RK} (hu : P.underlying t = some (.slice e)) (hu' : P.underlying t' = some (.int kk)) (hz : sizeP P e = some es) (hb : bytesP P e = some b) (h0 : 0 < b)
    (hzr : zrl P e = some z) (hzl : rlLen z = es) (he : 0 < es) (hk : zOk rk z = true) (hgen : rk ≠ .gen) (hX : Src ι w M es r1 n (.slice A n cap)) (hle : n ≤ cap) (hfit : (n + m) * b ≤ 140737488355328)
    (hAn : A = none → cap = 0) :
    Out P ι w M (Builtin.append_ #[t, t'] ty #[.slice A n cap, .int k' m]) e es n m cap A r1 (zeroRow rk (rlList z) m) := by
  unfold Out
  obtain ⟨i, hi1, hi2⟩ := bytesP_some hb
  obtain ⟨i', hi3, hi4⟩ := sizeP_some hz
  rw [hi1] at hi3
  cases hi3
  have hnm : n + m ≤ (n + m) * b := Nat.le_mul_of_pos_right _ h0
  have hw : IntKind.i64.wrap (m : Int) = m := IntWalk.i64_in _ (by omega)
  have hmb : m * b ≤ 140737488355328 := Nat.le_trans (Nat.mul_le_mul_right _ (by omega)) hfit
  have hmb' : ((m : Int) * (b : Int)) ≤ 140737488355328 := by rw [← Int.natCast_mul]; exact Int.ofNat_le.2 hmb
  obtain ⟨hr1, hr2⟩ := zeroRow_get (n := m) hk hzl he
  have hone : ∀ j, ((zeroRow rk (rlList z) m).get j).one = true := fun j => by
    cases rk with
    | int k => rfl
    | bool => rfl
    | gen => exact absurd rfl hgen
  have cells : ∀ w' : World, ∃ Z : Value, (zeroValue e).run P w' = .ok Z w' ∧ Z.cells.size = es ∧ (Builtin.zeroCells Z.cells m).size = m * es ∧ (∀ j, j < m * es → VRel ι w' M ((zeroRow rk (rlList z) m).get j) ((Builtin.zeroCells Z.cells m).getD j default)) := fun w' => by
    obtain ⟨Z, hZ, _, h3, h4⟩ := zrl_run (ι := ι) (M := M) (w := w') hzr
    have hzs : Z.cells.size = es := by omega
    refine ⟨Z, hZ, hzs, by rw [size_zeroCells, hzs], fun j hj => ?_⟩
    have e1 : Builtin.zeroCells Z.cells m = (Array.range (m * es)).map (Z.cells[· % Z.cells.size]!) := by
      unfold Builtin.zeroCells
      rw [hzs]
    rw [e1, hr2 j hj, range_mod _ _ _ hj (by omega), hzs]
    exact h4 _ (by rw [hzl]; exact Nat.mod_lt _ he)
  have ones : ∀ (w' : World) (N : Array Value), N.size = m * es → (∀ j, j < m * es → VRel ι w' M ((zeroRow rk (rlList z) m).get j) (N.getD j default)) → ∀ u ∈ N.toList, u.oneCell' = true := fun w' N h1 h2 u hu => by
    obtain ⟨j, hj, rfl⟩ := List.getElem_of_mem hu
    have hj' : j < m * es := by simp at hj; omega
    have h3 := ((h2 j hj').one (hone j)).1
    have h4 : j < N.size := by omega
    simpa [Array.getD_eq_getD_getElem?, h4] using h3
  have run : ∀ (w' : World) (Z : Value), (zeroValue e).run P w' = .ok Z w' → Z.cells.size = es → (if m * es = 0 then pure #[] else do pure (Builtin.zeroCells (← zeroValue e).cells m) : Sem (Array Value)).run P w' = .ok (Builtin.zeroCells Z.cells m) w' := fun w' Z hZ hs => by
    by_cases h : m * es = 0
    · have : Builtin.zeroCells Z.cells m = #[] := by
        unfold Builtin.zeroCells
        rw [hs, h]
        simp
      rw [if_pos h, this]
      rfl
    · rw [if_neg h]
      simp [hZ]
  have hempty : m * es = 0 → ∀ Z : Value, Z.cells.size = es → Builtin.zeroCells Z.cells m = #[] := fun h Z hs => by
    unfold Builtin.zeroCells
    rw [hs, h]
    simp
  obtain ⟨Z, hZ, hZs, hN1, hN2⟩ := cells w
  refine ⟨Builtin.zeroCells Z.cells m, hN1, hN2, ones w _ hN1 hN2, ?_⟩
  have hlt : ¬ ((m : Int) < 0) := by omega
  have hbig : ¬ ((281474976710656 : Int) < (m : Int) * (i.bytes : Int)) := by rw [hi2]; omega
  have hti : ∀ w, (typeInfo e).run P w = .ok i w := fun w => by simp [typeInfo, hi1]
  rcases Nat.lt_or_ge cap (n + m) with hc | hc
  · refine .inr ⟨hc, ?_⟩
    have hX' : Src ι w.drew M es r1 n (.slice A n cap) := by
      refine ⟨hX.1, ?_⟩
      rcases hX.2 with h | ⟨a, c, g, h1, h2, h3, h4⟩
      · exact .inl h
      · exact .inr ⟨a, c, g, h1, h2, h3, fun j hj => ⟨(h4 j hj).1.mono .drew (fun _ _ h => h), (h4 j hj).2⟩⟩
    obtain ⟨O1, hO1, hO2, hO3, _⟩ := first_run (P := P) hX'
    obtain ⟨Y, hY, hYs, hY1, hY2⟩ := cells w.drew
    let nc := Question.cut (.appendCap (n + m) cap e) (w.tape w.drawn (.appendCap (n + m) cap e))
    have hnc : n + m ≤ nc := by simp only [nc, Question.cut]; omega
    have hcap : ¬ (281474976710656 < Builtin.nextslicecap (n + m) cap * i.bytes) := by
      have := growslice_fits (need := n + m) (old := cap) (bytes := i.bytes) hc (by rw [hi2]; exact hfit)
      omega
    have hO : (O1 ++ Builtin.zeroCells Y.cells m ++ Builtin.zeroCells Y.cells (nc - (n + m))).size = nc * es := by
      simp only [Array.size_append, size_zeroCells, hYs, hO2, ← Nat.add_mul]
      congr 1
      omega
    refine ⟨nc, O1 ++ Builtin.zeroCells Y.cells m ++ Builtin.zeroCells Y.cells (nc - (n + m)), hnc, hO, fun j hj => ?_, fun j hj => ?_, ?_⟩
    · have h1 : (O1 ++ Builtin.zeroCells Y.cells m ++ Builtin.zeroCells Y.cells (nc - (n + m))).getD j default = O1.getD j default := by
        have h2 : j < O1.size := by omega
        simp [Array.getD_eq_getD_getElem?, Array.getElem?_append, h2]
      rw [h1]
      exact (hO3 j hj).mono Imm.undrew (fun _ _ h => h)
    · have h1 : (O1 ++ Builtin.zeroCells Y.cells m ++ Builtin.zeroCells Y.cells (nc - (n + m))).getD (n * es + j) default = (Builtin.zeroCells Y.cells m).getD j default := by
        have h2 : n * es + j < O1.size + (Builtin.zeroCells Y.cells m).size := by omega
        have h3 : ¬ n * es + j < O1.size := by omega
        simp only [Array.getD_eq_getD_getElem?, Array.getElem?_append, Array.size_append, h2, if_true, h3, if_false]
        congr 2
        omega
      rw [h1]
      exact (hY2 j hj).mono Imm.undrew (fun _ _ h => h)
    · have hnot : ¬ (n + m ≤ cap) := by omega
      have hov : ¬ ((9223372036854775807 : Int) < (n : Int) + (m : Int)) := by omega
      have hr := run w.drew Y hY hYs
      simp [Builtin.append_, run_underlying hu, run_underlying hu', sizeOf, typeInfo, hi1, asInt, asIntOf, hw, hlt, hbig, hnot, hcap, hi4, hO1, hov]
      rw [if_neg (by simp [Question.forced])]
      by_cases h : m * es = 0
      · rw [if_pos h, hY, Result.andThen_ok, newRow_run, Result.andThen_ok, hempty h Y hYs]
        simp only [Array.empty_append]
        rfl
      · rw [if_neg h, hY, Result.andThen_ok, Result.andThen_ok, hY, Result.andThen_ok, newRow_run, Result.andThen_ok]
        rfl
  · refine .inl ⟨hc, fun R hR => ?_⟩
    have hr := run w Z hZ hZs
    cases A with
    | none =>
      simp only at hR
      subst hR
      simp [Builtin.append_, run_underlying hu, run_underlying hu', sizeOf, typeInfo, hi1, asInt, asIntOf, hw, hlt, hbig, hc, hi4]
      intro h
      rw [hZ, Result.andThen_ok, Result.andThen_ok]
    | some a =>
      simp only at hR
      subst hR
      simp [Builtin.append_, run_underlying hu, run_underlying hu', sizeOf, typeInfo, hi1, asInt, asIntOf, hw, hlt, hbig, hc, hi4]
      by_cases h : m * es = 0
      · rw [if_pos h, hempty h Z hZs]
      · rw [if_neg h, hZ, Result.andThen_ok, Result.andThen_ok]
theorem Rep.handle {h : Nat} {p : Option (Nat × Nat)} (hR : Rep ι s w M) (hn : ι h = none) (hlt : h < s.next) (hg : s.get h = none) : Rep (ι.set h p) s w M := by
  have hx := ι.set_ext h p hn
  have hne : ∀ j c, s.get j = some c → j ≠ h := fun j c hc e => by subst e; rw [hg] at hc; cases hc
  refine ⟨fun j hj => by rw [ι.set_other _ _ _ (by omega)]; exact hR.fresh j hj, fun j c hc => ?_, fun j j' c c' p1 p' hc hc' hd hp hp' => ?_, hR.lt⟩
  · rw [ι.set_other _ _ _ (hne j c hc)]
    rcases hR.own j c hc with h1 | ⟨b, base, h1, h2, h3⟩
    · exact .inl h1
    · exact .inr ⟨b, base, h1, h2, h3.mono (Imm.refl w M) hx rfl⟩
  · rw [ι.set_other _ _ _ (hne j c hc)] at hp
    rw [ι.set_other _ _ _ (hne j' c' hc')] at hp'
    exact hR.inj j j' c c' p1 p' hc hc' hd hp hp'
theorem Go.handle {n0 h : Nat} {p : Option (Nat × Nat)} (hn : n0 ≤ s.next) (hh : n0 ≤ h) (hg : s.get h = none) (hi : ι h = none) : Go n0 ι s w M (ι.set h p) s w M :=
  ⟨Nat.le_refl _, rfl, rfl, rfl, fun _ _ _ => rfl, fun _ _ => rfl, fun _ _ h => h, fun _ h _ => h, fun b hb ho => by
    obtain ⟨j, c, base, h1, h2⟩ := ho
    have hne : j ≠ h := fun e => by subst e; rw [hg] at h1; cases h1
    rw [ι.set_other _ _ _ hne] at h2
    exact ⟨j, c, base, h1, h2⟩, hn, fun j hj => ι.set_other h j p (by omega)⟩
def Does (P : Program) (n0 : Nat) (ι : Iota) (s : St) (w : World) (M : Nat → Prop) (o : Sem Value) (v : AV) (s' : St) : Prop :=
  ∃ V ι' w' M', o.run P w = .ok V w' ∧ VRel ι' w' M' v V ∧ Rep ι' s' w' M' ∧ Go n0 ι s w M ι' s' w' M' ∧ (∀ h p, ι h = some p → ι' h = some p) ∧ Imm w M w' M'
theorem new_row {es n : Nat} {c : Chunk} {O : Array Value} {e nc : Nat} {n0 : Nat} (hR : Rep ι s w M) (hn : n0 ≤ s.next) (hO : O.size = nc * es) (hnc : n ≤ nc) (hc : c.size = n * es) (hcell : ∀ j, j < c.size → VRel ι w M (c.get j) (O.getD j default)) :
    ∃ ι' M', VRel ι' (w.alloc (.cells O e)) M' (.sl es s.next 0 n) (.slice (some ⟨w.heap.size, 0, none⟩) n nc) ∧ Rep ι' ⟨s.next + 1, (s.next, some c) :: s.m⟩ (w.alloc (.cells O e)) M' ∧
      Go n0 ι s w M ι' ⟨s.next + 1, (s.next, some c) :: s.m⟩ (w.alloc (.cells O e)) M' ∧ (∀ h p, ι h = some p → ι' h = some p) ∧ Imm w M (w.alloc (.cells O e)) M' := by
  have hi : ι s.next = none := hR.fresh _ (Nat.le_refl _)
  have hg : s.get s.next = none := by
    cases h : s.get s.next with
    | none => rfl
    | some c => exact absurd (hR.none_of_get h) (by omega)
  have hR1 : Rep ι ⟨s.next + 1, s.m⟩ w M := hR.next (by omega)
  have hR2 := Rep.alloc (cs := O) (T := e) (h := s.next) hR1 hi (by simp) hg
  have hx := ι.set_ext s.next (some (w.heap.size, 0)) hi
  have hI := Imm.alloc (w := w) (M := M) (.cells O e)
  refine ⟨ι.set s.next (some (w.heap.size, 0)), addM M w.heap.size, ?_, ?_, ?_, hx, hI⟩
  · exact .sl es s.next 0 n w.heap.size 0 0 nc e O.size (ι.set_same _ _) (.inl rfl) hnc (shape_alloc O e) (by omega)
  · refine hR2.put (.inr ⟨w.heap.size, 0, ι.set_same _ _, .inr rfl, ⟨O, e, (0, 0), heap_alloc_new w _, fun i _ => by omega, ?_, fun j hj => ?_⟩, fun j c' p hne hc' hp => ?_⟩)
    · have : n * es ≤ nc * es := Nat.mul_le_mul_right _ hnc
      omega
    · rw [Nat.zero_add]
      exact (hcell j hj).mono hI hx
    · rw [ι.set_other _ _ _ hne] at hp
      have hM := hR.ownM ⟨j, c', p.2, hc', hp⟩
      have := hR.lt _ hM
      omega
  · have hgo := Go.alloc (n0 := n0) (h := s.next) (o := .cells O e) (p := some (w.heap.size, 0)) (ι := ι) (s := s) (w := w) (M := M) hn hn hg hi
    refine ⟨hgo.size, hgo.tape, hgo.os, hgo.output, hgo.block, hgo.shape, hgo.back, hgo.keep, fun b hb ho => ?_, by simp only; omega, hgo.ext⟩
    obtain ⟨j, c', base, h1, h2⟩ := ho
    rw [St.get_cons] at h1
    split at h1
    · rename_i he
      subst he
      rw [ι.set_same] at h2
      simp only [Option.some.injEq, Prod.mk.injEq] at h2
      omega
    · rename_i he
      rw [ι.set_other _ _ _ (fun e => he e.symm)] at h2
      exact ⟨j, c', base, h1, h2⟩
end
end Go.Ab
set_option linter.unusedVariables false
set_option linter.unusedSimpArgs false
set_option autoImplicit false
namespace Go.Ab
section
variable {P : Program} {ι : Iota} {s : St} {w : World} {M : Nat → Prop}
theorem storeCells_ok {b o : Nat} {cs : Array Value} {T : Nat} {fr : Nat × Nat} (l : List Value) (hh : w.heap[b]? = some (.cells cs T fr)) (hf : ∀ i, i < cs.size → ¬ (fr.1 ≤ i ∧ i < fr.2))
    (hle : o + l.length ≤ cs.size) (h1 : ∀ u ∈ l, u.oneCell' = true) : (storeCells ⟨b, o, none⟩ l).run P w = .ok () (w.setCells b o l) := by
  have hst := run_storeCells_cells (P := P) b o l 0 w (fun j hj => by
      have : o + 0 + j < cs.size := by omega
      simp only [Nat.add_zero] at this
      simp [World.cell?, hh, this]) (fun j hj => by
      have h2 : o + 0 + j < cs.size := by omega
      have := hf _ h2
      obtain ⟨lo, hi⟩ := fr
      simp only [World.frozen?, hh]
      simp only at this
      simp; omega) h1
  simpa only [Nat.add_zero] using hst
theorem append_core0 {n0 e es n m cap : Nat} {A : Option Addr} {o : Sem Value} {r1 r2 r : Chunk} {m1 : Mem} (hR : Rep ι s w M) (hn : n0 ≤ s.next)
    (hR1 : Rep ι ⟨s.next, m1⟩ w M) (hsub : ∀ b, Own ι ⟨s.next, m1⟩ b → Own ι s b)
    (hX : Src ι w M es r1 n (.slice A n cap)) (hout : Out P ι w M o e es n m cap A r1 r2) (hle : n ≤ cap)
    (hr : r.size = (n + m) * es) (hrg : ∀ j, j < r.size → r.get j = if j < n * es then r1.get j else r2.get (j - n * es))
    (hA : (A = none ∧ cap = 0) ∨ ∃ bb oo cs T fr, A = some ⟨bb, oo, none⟩ ∧ Own ι s bb ∧ w.heap[bb]? = some (.cells cs T fr) ∧ (∀ i, i < cs.size → ¬ (fr.1 ≤ i ∧ i < fr.2)) ∧ oo + cap * es ≤ cs.size ∧ ¬ Own ι ⟨s.next, m1⟩ bb) :
    Does P n0 ι s w M o (.sl es s.next 0 (n + m)) ⟨s.next + 1, (s.next, some r) :: m1⟩ := by
  have hi : ι s.next = none := hR.fresh _ (Nat.le_refl _)
  have hg1 : (St.mk s.next m1).get s.next = none := by
    cases h : (St.mk s.next m1).get s.next with
    | none => rfl
    | some c => exact absurd (hR1.none_of_get h) (by simp)
  have hnm : Go n0 ι s w M ι ⟨s.next, m1⟩ w M := Go.names hn hsub
  obtain ⟨N, hN1, hN2, hN3, hc⟩ := hout
  rcases hc with ⟨hc, hrun⟩ | ⟨hc, nc, O, hnc, hO, hO1, hO2, hrun⟩
  · rcases hA with ⟨rfl, rfl⟩ | ⟨bb, oo, cs, T, fr, rfl, hown, hh, hfr, hbd, hno⟩
    · obtain ⟨rfl, rfl⟩ : n = 0 ∧ m = 0 := by omega
      have hrun := hrun _ rfl
      have hR2 : Rep (ι.set s.next none) ⟨s.next + 1, m1⟩ w M := Rep.handle (hR1.next (n := s.next + 1) (by simp)) hi (by simp) hg1
      refine ⟨.slice none 0 0, ι.set s.next none, w, M, by rw [hrun]; rfl, .slv _ _ _ (ι.set_same _ _), hR2.put (.inl ⟨ι.set_same _ _, by rw [hr]; simp⟩), ?_, ι.set_ext _ _ hi, Imm.refl w M⟩
      have hgo := Go.handle (n0 := n0) (p := none) (ι := ι) (s := ⟨s.next, m1⟩) (w := w) (M := M) hn hn hg1 hi
      refine Go.trans hnm ⟨hgo.size, hgo.tape, hgo.os, hgo.output, hgo.block, hgo.shape, hgo.back, hgo.keep, fun b hb ho => ?_, by simp only; omega, hgo.ext⟩ hR.lt
      obtain ⟨j, c', base, h1, h2⟩ := ho
      rw [St.get_cons] at h1
      split at h1
      · rename_i he
        subst he
        rw [ι.set_same] at h2
        simp at h2
      · rename_i he
        rw [ι.set_other _ _ _ (fun e => he e.symm)] at h2
        exact ⟨j, c', base, h1, h2⟩
    · have hMb : M bb := hR.ownM hown
      have hlen : N.toList.length = m * es := by simpa using hN1
      have hmul : (n + m) * es ≤ cap * es := Nat.mul_le_mul_right _ hc
      have hadd : (n + m) * es = n * es + m * es := Nat.add_mul _ _ _
      have hst := storeCells_ok (P := P) (w := w) (b := bb) (o := oo + n * es) N.toList hh hfr (by omega) hN3
      rw [← add_eq ⟨bb, oo, none⟩ (n * es) rfl] at hst
      have hrun := hrun _ hst
      obtain ⟨e1, e2, e3, e4⟩ := setCells_same N.toList bb (oo + n * es) w
      have hsh := fun k => setCells_shape N.toList bb (oo + n * es) k w cs T fr hh
      have hoth := fun k hk => setCells_other N.toList bb (oo + n * es) k w hk
      have hI := Imm.set (w := w) hMb e1 hoth hsh
      have hx := ι.set_ext s.next (some (bb, oo)) hi
      have hshape : w.shape? bb = some (T, cs.size) := by unfold World.shape?; rw [hh]
      have hnj : ∀ j c base, (St.mk s.next m1).get j = some c → ι j ≠ some (some (bb, base)) := fun j c base hc hb => hno ⟨j, c, base, hc, hb⟩
      have hne1 : ∀ j c, (St.mk s.next m1).get j = some c → j ≠ s.next := fun j c hc e => by subst e; rw [hg1] at hc; cases hc
      -- the other chunks
      have hR2 : Rep (ι.set s.next (some (bb, oo))) ⟨s.next + 1, m1⟩ (w.setCells bb (oo + n * es) N.toList) M := by
        have hR2 := Rep.handle (p := some (bb, oo)) (hR1.next (n := s.next + 1) (by simp)) hi (by simp) hg1
        refine ⟨hR2.fresh, fun j c hc => ?_, hR2.inj, fun b hb => by rw [e1]; exact hR2.lt b hb⟩
        rcases hR2.own j c hc with h1 | ⟨b1, base1, h1, h2, h3⟩
        · exact .inl h1
        · refine .inr ⟨b1, base1, h1, h2, h3.mono hI (fun _ _ h => h) (hoth b1 fun e => ?_)⟩
          subst e
          rw [ι.set_other _ _ _ (hne1 j c hc)] at h1
          exact hnj j c base1 hc h1
      refine ⟨.slice (some ⟨bb, oo, none⟩) (n + m) cap, ι.set s.next (some (bb, oo)), _, M, by rw [hrun]; rfl, ?_, hR2.put (.inr ⟨bb, oo, ι.set_same _ _, hMb, ?_, fun j c' p hne hc' hp => ?_⟩), ?_, hx, hI⟩
      · exact .sl es s.next 0 (n + m) bb oo oo cap T cs.size (ι.set_same _ _) (.inl rfl) hc ((hsh bb).trans hshape) hbd
      · refine ⟨_, T, fr, setCells_heap _ _ _ _ _ _ _ hh, fun i hi' => hfr i (by rwa [putA_size] at hi'), by rw [putA_size, hr]; omega, fun j hj => ?_⟩
        have hj' := hj
        rw [hr] at hj
        rw [putA_get _ _ _ _ (by omega), hlen, hrg j hj']
        by_cases hjn : j < n * es
        · rw [if_pos hjn, if_neg (by omega)]
          rcases hX.2 with ⟨rfl, _⟩ | ⟨a, c, g, ha, hs, hcell, hg⟩
          · simp at hjn
          · simp only [Value.slice.injEq, Option.some.injEq] at ha
            obtain ⟨rfl, _, rfl⟩ := ha
            have h5 := hcell j hjn
            have h6 : cs.getD (oo + j) default = g j := by
              have hlt : oo + j < cs.size := by omega
              simp only [World.cell?, hh] at h5
              simp [hlt] at h5
              simpa [Array.getD, hlt] using h5
            rw [h6]
            exact ((hg j hjn).1).mono hI hx
        · rw [if_neg hjn, if_pos (by omega)]
          have h7 := hN2 (j - n * es) (by omega)
          rw [show oo + j - (oo + n * es) = j - n * es by omega]
          have h8 : N.toList.getD (j - n * es) default = N.getD (j - n * es) default := by
            simp [List.getD_eq_getElem?_getD, Array.getD_eq_getD_getElem?]
          rw [h8]
          exact h7.mono hI hx
      · rw [ι.set_other _ _ _ hne] at hp
        intro e
        have h9 : p = (bb, p.2) := by rw [← e]
        rw [h9] at hp
        exact hnj j c' p.2 hc' hp
      · refine ⟨by omega, e2, e3, e4, fun k hk hno => hoth k fun e => hno (e ▸ hown), fun k _ => hsh k, fun _ _ h => h, fun _ h _ => h, fun k hk ho => ?_, by simp only; omega, fun h hh => ι.set_other _ _ _ (by omega)⟩
        obtain ⟨j, c', base, h1, h2⟩ := ho
        rw [St.get_cons] at h1
        split at h1
        · rename_i he
          subst he
          rw [ι.set_same] at h2
          simp only [Option.some.injEq, Prod.mk.injEq] at h2
          exact h2.1 ▸ hown
        · rename_i he
          rw [ι.set_other _ _ _ (fun e => he e.symm)] at h2
          exact hsub k ⟨j, c', base, h1, h2⟩
  · have hadd : (n + m) * es = n * es + m * es := Nat.add_mul _ _ _
    obtain ⟨ι', M', h1, h2, h3, h4, h5⟩ := new_row (ι := ι) (s := ⟨s.next, m1⟩) (w := w.drew) (M := M) (n0 := n0) (e := e) (es := es) (n := n + m) (nc := nc) (c := r) (O := O) hR1.drew hn hO hnc hr (fun j hj => by
      have hj' := hj
      rw [hr] at hj
      rw [hrg j hj']
      by_cases hjn : j < n * es
      · rw [if_pos hjn]; exact (hO1 j hjn).mono .drew (fun _ _ h => h)
      · rw [if_neg hjn]
        have := (hO2 (j - n * es) (by omega)).mono (Imm.drew (w := w) (M := M)) (fun _ _ h => h)
        rwa [show n * es + (j - n * es) = j by omega] at this)
    exact ⟨_, ι', _, M', hrun, h1, h2, (hnm.trans (Go.drew hn) hR.lt).trans h3 hR.lt, h4, Imm.drew.trans h5⟩
theorem append_core {n0 t t' ty e es b n m cap : Nat} {A : Option Addr} {Y : Value} {z : List (Nat × AV)} {r1 r2 r : Chunk} {m1 : Mem} (hR : Rep ι s w M) (hn : n0 ≤ s.next)
    (hR1 : Rep ι ⟨s.next, m1⟩ w M) (hsub : ∀ b, Own ι ⟨s.next, m1⟩ b → Own ι s b)
    (hu : P.underlying t = some (.slice e)) (hu' : ∃ e', P.underlying t' = some (.slice e')) (hz : sizeP P e = some es) (hb : bytesP P e = some b) (h0 : 0 < b)
    (hzr : zrl P e = some z) (hzl : rlLen z = es) (hX : Src ι w M es r1 n (.slice A n cap)) (hY : Src ι w M es r2 m Y) (hYl : ∃ B c, Y = .slice B m c) (hle : n ≤ cap) (hfit : (n + m) * b ≤ 140737488355328)
    (hr : r.size = (n + m) * es) (hrg : ∀ j, j < r.size → r.get j = if j < n * es then r1.get j else r2.get (j - n * es))
    (hA : (A = none ∧ cap = 0) ∨ ∃ bb oo cs T fr, A = some ⟨bb, oo, none⟩ ∧ Own ι s bb ∧ w.heap[bb]? = some (.cells cs T fr) ∧ (∀ i, i < cs.size → ¬ (fr.1 ≤ i ∧ i < fr.2)) ∧ oo + cap * es ≤ cs.size ∧ ¬ Own ι ⟨s.next, m1⟩ bb) :
    Does P n0 ι s w M (Builtin.append_ #[t, t'] ty #[.slice A n cap, Y]) (.sl es s.next 0 (n + m)) ⟨s.next + 1, (s.next, some r) :: m1⟩ :=
  append_core0 hR hn hR1 hsub hX (append_run (P := P) hu hu' hz hb h0 hzr hzl hX hY hYl hle hfit (ty := ty) (fun h => by
    rcases hA with ⟨_, h⟩ | ⟨_, _, _, _, _, h', _⟩
    · exact h
    · rw [h] at h'; cases h')) hle hr hrg hA
theorem append_corez {n0 t t' ty e es b n m cap : Nat} {kk k' : IntKind} {A : Option Addr} {z : List (Nat × AV)} {r1 r : Chunk} {rk : RK} {m1 : Mem} (hR : Rep ι s w M) (hn : n0 ≤ s.next)
    (hR1 : Rep ι ⟨s.next, m1⟩ w M) (hsub : ∀ b, Own ι ⟨s.next, m1⟩ b → Own ι s b)
    (hu : P.underlying t = some (.slice e)) (hu' : P.underlying t' = some (.int kk)) (hz : sizeP P e = some es) (hb : bytesP P e = some b) (h0 : 0 < b)
    (hzr : zrl P e = some z) (hzl : rlLen z = es) (he : 0 < es) (hk : zOk rk z = true) (hgen : rk ≠ .gen) (hX : Src ι w M es r1 n (.slice A n cap)) (hle : n ≤ cap) (hfit : (n + m) * b ≤ 140737488355328)
    (hr : r.size = (n + m) * es) (hrg : ∀ j, j < r.size → r.get j = if j < n * es then r1.get j else (zeroRow rk (rlList z) m).get (j - n * es))
    (hA : (A = none ∧ cap = 0) ∨ ∃ bb oo cs T fr, A = some ⟨bb, oo, none⟩ ∧ Own ι s bb ∧ w.heap[bb]? = some (.cells cs T fr) ∧ (∀ i, i < cs.size → ¬ (fr.1 ≤ i ∧ i < fr.2)) ∧ oo + cap * es ≤ cs.size ∧ ¬ Own ι ⟨s.next, m1⟩ bb) :
    Does P n0 ι s w M (Builtin.append_ #[t, t'] ty #[.slice A n cap, .int k' m]) (.sl es s.next 0 (n + m)) ⟨s.next + 1, (s.next, some r) :: m1⟩ :=
  append_core0 hR hn hR1 hsub hX (append_run0 (P := P) hu hu' hz hb h0 hzr hzl he hk hgen hX hle hfit (ty := ty) (fun h => by
    rcases hA with ⟨_, h⟩ | ⟨_, _, _, _, _, h', _⟩
    · exact h
    · rw [h] at h'; cases h')) hle hr hrg hA
theorem appendz_sound {n0 t t' ty e es b : Nat} {kk : IntKind} {x y v : AV} {X Y : Value} {z : List (Nat × AV)} {rk : RK} {eff : Eff} (hR : Rep ι s w M) (hn : n0 ≤ s.next)
    (hu : P.underlying t = some (.slice e)) (hu' : P.underlying t' = some (.int kk)) (hz : sizeP P e = some es) (hb : bytesP P e = some b) (h0 : 0 < b)
    (hzr : zrl P e = some z) (hzl : rlLen z = es) (he : 0 < es) (hk : zOk rk z = true) (hgen : rk ≠ .gen) (hX : VRel ι w M x X) (hY : VRel ι w M y Y) (h : appzA es b rk (rlList z) x y s.get s.next = .ok true v eff) :
    Does P n0 ι s w M (Builtin.append_ #[t, t'] ty #[X, Y]) v (s.app eff) := by
  have hG := hR.hget
  unfold appzA at h
  split at h
  · rename_i k' c
    obtain rfl := hY.int_inv
    split at h
    · obtain rfl := hX.nils_inv
      simp only [Res.ok.injEq, Bool.and_eq_true, decide_eq_true_eq] at h
      obtain ⟨⟨h3, h4⟩, rfl, rfl⟩ := h
      obtain ⟨m, rfl⟩ := Int.eq_ofNat_of_zero_le h3
      simp only [Int.toNat_natCast] at h4 ⊢
      have hSX : Src ι w M es (.obj []) 0 (.slice none 0 0) := ⟨by simp [Chunk.size], .inl ⟨rfl, _, _, rfl⟩⟩
      obtain ⟨q1, q2⟩ := zeroRow_get (n := m) hk hzl he
      have := append_corez (P := P) (r := zeroRow rk (rlList z) m) (k' := k') hR hn hR (fun _ h => h) hu hu' hz hb h0 hzr hzl he hk hgen hSX (Nat.le_refl _) (by simpa using h4) (by simpa using q1) (fun j _ => by simp) (ty := ty) (.inl ⟨rfl, rfl⟩)
      simpa [St.app] using this
    · rename_i ee hh o n
      split at h
      · rename_i c1 r1 h1
        split at h
        · rename_i r hcat
          simp only [Res.ok.injEq, Bool.and_eq_true, decide_eq_true_eq] at h
          obtain ⟨⟨⟨rfl, h3⟩, h4⟩, rfl, rfl⟩ := h
          obtain ⟨m, rfl⟩ := Int.eq_ofNat_of_zero_le h3
          simp only [Int.toNat_natCast] at h4 hcat ⊢
          have hSX := rowFrom_src hX hG h1 rfl
          obtain ⟨q1, q2⟩ := cat_spec hcat
          obtain ⟨z1, z2⟩ := zeroRow_get (n := m) hk hzl he
          have hadd : (n + m) * es = n * es + m * es := Nat.add_mul _ _ _
          have hget : ∃ c, s.get hh = some c := by
            simp only [rowFrom] at h1
            cases hg : s.get hh with
            | none => simp [hg] at h1
            | some c => exact ⟨c, rfl⟩
          obtain ⟨c, hg⟩ := hget
          have hee : ee = es := by
            simp only [rowFrom, hg] at h1
            cases c <;> simp only [Option.some.injEq, Prod.mk.injEq, Bool.and_eq_true, Nat.beq_eq_true_eq, reduceCtorEq] at h1
            · exact Nat.eq_of_beq_eq_true h1.1.1.1
            · exact Nat.eq_of_beq_eq_true h1.1.1.1
            · exact Nat.eq_of_beq_eq_true h1.1.1.1
            · exact Nat.eq_of_beq_eq_true h1.1.1.1.1
          subst hee
          have hsub : ∀ b, Own ι ⟨s.next, (hh, none) :: s.m⟩ b → Own ι s b := fun b ho => by
            obtain ⟨j, c', base, k1, k2⟩ := ho
            rw [St.get_cons] at k1
            split at k1
            · cases k1
            · exact ⟨j, c', base, k1, k2⟩
          have hcore : ∀ A cap, X = .slice A n cap → n ≤ cap → ((A = none ∧ cap = 0) ∨ ∃ bb oo cs T fr, A = some ⟨bb, oo, none⟩ ∧ Own ι s bb ∧ w.heap[bb]? = some (.cells cs T fr) ∧ (∀ i, i < cs.size → ¬ (fr.1 ≤ i ∧ i < fr.2)) ∧ oo + cap * ee ≤ cs.size ∧ ¬ Own ι ⟨s.next, (hh, none) :: s.m⟩ bb) →
              Does P n0 ι s w M (Builtin.append_ #[t, t'] ty #[X, .int k' m]) (.sl ee s.next 0 (n + m)) (s.app (.app hh r)) := by
            intro A cap hXe hle hA
            subst hXe
            have := append_corez (P := P) (r := r) (k' := k') hR hn (hR.drop hh) hsub hu hu' hz hb h0 hzr hzl he hk hgen hSX hle h4 (by rw [q1, hSX.1, z1, hadd]) (fun j hj => by rw [q2 j hj, hSX.1]) (ty := ty) hA
            simpa [St.app] using this
          rcases hX.sl_inv with ⟨bb, base, oo, cap, T, N, hi', ho, hl, hs, hnn, rfl⟩ | ⟨hv, rfl, rfl⟩
          · rcases hR.own hh c hg with ⟨k1, _⟩ | ⟨b', base', k1, k2, cs, T', fr, k3, k4, k5, k6⟩
            · rw [hi'] at k1; cases k1
            · rw [hi'] at k1
              simp only [Option.some.injEq, Prod.mk.injEq] at k1
              obtain ⟨rfl, rfl⟩ := k1
              refine hcore _ cap rfl hl (.inr ⟨bb, oo, cs, T', fr, rfl, ⟨hh, c, base, hg, hi'⟩, k3, k4, ?_, fun ho => ?_⟩)
              · unfold World.shape? at hs
                rw [k3] at hs
                simp only [Option.some.injEq, Prod.mk.injEq] at hs
                omega
              · obtain ⟨j, c', base2, k7, k8⟩ := ho
                rw [St.get_cons] at k7
                split at k7
                · cases k7
                · rename_i hne
                  exact hR.inj hh j c c' _ _ hg k7 hne hi' k8 rfl
          · exact hcore none 0 rfl (Nat.le_refl _) (.inl ⟨rfl, rfl⟩)
        · simp at h
      · simp at h
    · simp at h
  · simp at h
theorem append_sound {n0 t t' ty e es b : Nat} {x y v : AV} {X Y : Value} {z : List (Nat × AV)} {eff : Eff} (hR : Rep ι s w M) (hn : n0 ≤ s.next)
    (hu : P.underlying t = some (.slice e)) (hu' : ∃ e', P.underlying t' = some (.slice e')) (hz : sizeP P e = some es) (hb : bytesP P e = some b) (h0 : 0 < b)
    (hzr : zrl P e = some z) (hzl : rlLen z = es) (hX : VRel ι w M x X) (hY : VRel ι w M y Y) (h : appA es b x y s.get s.next = .ok true v eff) :
    Does P n0 ι s w M (Builtin.append_ #[t, t'] ty #[X, Y]) v (s.app eff) := by
  have hG := hR.hget
  unfold appA at h
  split at h
  · obtain rfl := hX.nils_inv
    split at h
    · rename_i c r m h1 h2
      simp only [Res.ok.injEq, Bool.and_eq_true, decide_eq_true_eq] at h
      obtain ⟨⟨⟨rfl, h3⟩, h4⟩, rfl, rfl⟩ := h
      have hSY := rowFrom_src hY hG h1 h2
      have hSX : Src ι w M es (.obj []) 0 (.slice none 0 0) := ⟨by simp [Chunk.size], .inl ⟨rfl, _, _, rfl⟩⟩
      have := append_core (P := P) (r := r) hR hn hR (fun _ h => h) hu hu' hz hb h0 hzr hzl hSX hSY (lenA_rel hY h2) (Nat.le_refl _) (by simpa using h3) (by simpa using hSY.1) (fun j _ => by simp) (ty := ty) (.inl ⟨rfl, rfl⟩)
      simpa [St.app] using this
    · simp at h
  · rename_i ee hh o n
    split at h
    · rename_i c1 r1 c2 r2 m h1 h2 h3
      split at h
      · rename_i r hcat
        simp only [Res.ok.injEq, Bool.and_eq_true, decide_eq_true_eq] at h
        obtain ⟨⟨⟨⟨rfl, rfl⟩, h4⟩, h5⟩, rfl, rfl⟩ := h
        have hSX := rowFrom_src hX hG h1 rfl
        have hSY := rowFrom_src hY hG h2 h3
        obtain ⟨q1, q2⟩ := cat_spec hcat
        have hadd : (n + m) * es = n * es + m * es := Nat.add_mul _ _ _
        have hget : ∃ c, s.get hh = some c := by
          simp only [rowFrom] at h1
          cases hg : s.get hh with
          | none => simp [hg] at h1
          | some c => exact ⟨c, rfl⟩
        obtain ⟨c, hg⟩ := hget
        have hee : ee = es := by
          simp only [rowFrom, hg] at h1
          cases c <;> simp only [Option.some.injEq, Prod.mk.injEq, Bool.and_eq_true, Nat.beq_eq_true_eq, reduceCtorEq] at h1
          · exact Nat.eq_of_beq_eq_true h1.1.1.1
          · exact Nat.eq_of_beq_eq_true h1.1.1.1
          · exact Nat.eq_of_beq_eq_true h1.1.1.1
          · exact Nat.eq_of_beq_eq_true h1.1.1.1.1
        subst hee
        have hsub : ∀ b, Own ι ⟨s.next, (hh, none) :: s.m⟩ b → Own ι s b := fun b ho => by
          obtain ⟨j, c', base, k1, k2⟩ := ho
          rw [St.get_cons] at k1
          split at k1
          · cases k1
          · exact ⟨j, c', base, k1, k2⟩
        have hcore : ∀ A cap, X = .slice A n cap → n ≤ cap → ((A = none ∧ cap = 0) ∨ ∃ bb oo cs T fr, A = some ⟨bb, oo, none⟩ ∧ Own ι s bb ∧ w.heap[bb]? = some (.cells cs T fr) ∧ (∀ i, i < cs.size → ¬ (fr.1 ≤ i ∧ i < fr.2)) ∧ oo + cap * ee ≤ cs.size ∧ ¬ Own ι ⟨s.next, (hh, none) :: s.m⟩ bb) →
            Does P n0 ι s w M (Builtin.append_ #[t, t'] ty #[X, Y]) (.sl ee s.next 0 (n + m)) (s.app (.app hh r)) := by
          intro A cap hXe hle hA
          subst hXe
          have := append_core (P := P) (r := r) hR hn (hR.drop hh) hsub hu hu' hz hb h0 hzr hzl hSX hSY (lenA_rel hY h3) hle h4 (by rw [q1, hSX.1, hSY.1, hadd]) (fun j hj => by rw [q2 j hj, hSX.1]) (ty := ty) hA
          simpa [St.app] using this
        rcases hX.sl_inv with ⟨bb, base, oo, cap, T, N, hi', ho, hl, hs, hnn, rfl⟩ | ⟨hv, rfl, rfl⟩
        · rcases hR.own hh c hg with ⟨k1, _⟩ | ⟨b', base', k1, k2, cs, T', fr, k3, k4, k5, k6⟩
          · rw [hi'] at k1; cases k1
          · rw [hi'] at k1
            simp only [Option.some.injEq, Prod.mk.injEq] at k1
            obtain ⟨rfl, rfl⟩ := k1
            refine hcore _ cap rfl hl (.inr ⟨bb, oo, cs, T', fr, rfl, ⟨hh, c, base, hg, hi'⟩, k3, k4, ?_, fun ho => ?_⟩)
            · unfold World.shape? at hs
              rw [k3] at hs
              simp only [Option.some.injEq, Prod.mk.injEq] at hs
              omega
            · obtain ⟨j, c', base2, k7, k8⟩ := ho
              rw [St.get_cons] at k7
              split at k7
              · cases k7
              · rename_i hne
                exact hR.inj hh j c c' _ _ hg k7 hne hi' k8 rfl
        · exact hcore none 0 rfl (Nat.le_refl _) (.inl ⟨rfl, rfl⟩)
      · simp at h
    · simp at h
  · simp at h
end
end Go.Ab
set_option linter.unusedVariables false
set_option linter.unusedSimpArgs false
set_option autoImplicit false
namespace Go.Ab
section
variable {P : Program} {ι : Iota} {s : St} {w : World} {M : Nat → Prop} {ρ : AOpd → AV} {η : Operand → Value} {get : Nat → Option Chunk} {nx : Nat}
theorem map_some {α β : Type} {f : α → β} {o : Option α} {b : β} (h : o.map f = some b) : ∃ a, o = some a ∧ f a = b := Option.map_eq_some_iff.1 h
def Pv (P : Program) (ι : Iota) (w : World) (M : Nat → Prop) (o : Sem Next) (v : AV) (e : Eff) : Prop :=
  (∃ V, o.run P w = .ok (.value V) w ∧ VRel ι w M v V) ∧ e = .no
theorem Pv.of {o : Sem Value} {v : AV} {e : Eff} (h : (∃ V, o.run P w = .ok V w ∧ VRel ι w M v V) ∧ e = .no) : Pv P ι w M (do pure (.value (← o)) : Sem Next) v e := by
  obtain ⟨⟨V, h1, h2⟩, h3⟩ := h
  exact ⟨⟨V, by simp [h1], h2⟩, h3⟩
theorem call_pure {c : Call} {a : AOp} {type : TypeId} {v : AV} {e : Eff} (hc : compCall P c = some a) (hE : a.isE = false) (hρ : ORel ι w M ρ η) (h : opD get nx ρ a = .ok true v e) :
    Pv P ι w M (do let d ← resolve η c type; invoke d.target d.args) v e := by
  obtain ⟨callee, args, argTypes⟩ := c
  unfold compCall at hc
  simp only at hc
  split at hc
  · -- len
    rename_i x hargs
    obtain ⟨hl, hr⟩ := opds_rel hρ _ _ hargs
    have hx := hr 0 (by simp)
    have hlen : args.size = 1 := by simpa using hl
    have hmap : args.map η = #[(args.toList.map η).getD 0 default] := by
      apply Array.ext
      · simp [hlen]
      · intro i h1 h2
        have : i = 0 := by simp at h2; omega
        subst this
        simp at h1
        simp [List.getD_eq_getElem?_getD, h1]
    generalize hX : (args.toList.map η).getD 0 default = X at hx hmap
    have hx : VRel ι w M (ρ x) X := by simpa using hx
    split at hc <;> simp only [Option.some.injEq, reduceCtorEq] at hc <;> subst hc
    · rename_i hu
      simp only [opD] at h
      cases hv : ρ x <;> simp only [hv, Res.ok.injEq, reduceCtorEq, true_and] at h
      obtain ⟨rfl, rfl⟩ := h
      rw [hv] at hx
      obtain rfl := hx.str_inv
      refine ⟨⟨_, ?_, .g _ _ (.int .i64 _)⟩, rfl⟩
      simp [resolve, invoke, builtin, hmap, len_run_str hu]
    · rename_i el hu
      simp only [opD] at h
      cases hn : lenA (ρ x) with
      | none => simp [hn] at h
      | some n =>
        simp only [hn, Res.ok.injEq, true_and] at h
        obtain ⟨rfl, rfl⟩ := h
        obtain ⟨A, cp, rfl⟩ := lenA_rel hx hn
        refine ⟨⟨_, ?_, .g _ _ (.int .i64 _)⟩, rfl⟩
        simp [resolve, invoke, builtin, hmap, len_run_slice (t := 0) hu]
  · -- min
    rename_i x y hargs
    simp only [Option.some.injEq] at hc
    subst hc
    obtain ⟨hl, hr⟩ := opds_rel hρ _ _ hargs
    have hx := hr 0 (by simp)
    have hy := hr 1 (by simp)
    have hlen : (args.toList.map η).length = 2 := by simpa using hl
    have hmap : (args.map η).toList = [(args.toList.map η).getD 0 default, (args.toList.map η).getD 1 default] := by
      rw [Array.toList_map]
      generalize args.toList.map η = L at hlen
      match L, hlen with
      | [a, b], _ => rfl
    generalize hX : (args.toList.map η).getD 0 default = X at hx hmap
    generalize hY : (args.toList.map η).getD 1 default = Y at hy hmap
    have hx : VRel ι w M (ρ x) X := by simpa using hx
    have hy : VRel ι w M (ρ y) Y := by simpa using hy
    simp only [opD] at h
    cases hv : ρ x <;> simp only [hv, reduceCtorEq] at h
    cases hv' : ρ y <;> simp only [hv', Res.ok.injEq, reduceCtorEq, true_and] at h
    obtain ⟨rfl, rfl⟩ := h
    rw [hv] at hx
    rw [hv'] at hy
    obtain rfl := hx.int_inv
    obtain rfl := hy.int_inv
    refine ⟨⟨_, ?_, .g _ _ (.int _ _)⟩, rfl⟩
    simp only [resolve, invoke, builtin, Builtin.min_, hmap, Sem.run_bind, Sem.run_pure, Result.andThen_ok]
    simp [Builtin.min2, List.foldlM]
  · -- max
    rename_i x y hargs
    simp only [Option.some.injEq] at hc
    subst hc
    obtain ⟨hl, hr⟩ := opds_rel hρ _ _ hargs
    have hx := hr 0 (by simp)
    have hy := hr 1 (by simp)
    have hlen : (args.toList.map η).length = 2 := by simpa using hl
    have hmap : (args.map η).toList = [(args.toList.map η).getD 0 default, (args.toList.map η).getD 1 default] := by
      rw [Array.toList_map]
      generalize args.toList.map η = L at hlen
      match L, hlen with
      | [a, b], _ => rfl
    generalize hX : (args.toList.map η).getD 0 default = X at hx hmap
    generalize hY : (args.toList.map η).getD 1 default = Y at hy hmap
    have hx : VRel ι w M (ρ x) X := by simpa using hx
    have hy : VRel ι w M (ρ y) Y := by simpa using hy
    simp only [opD] at h
    cases hv : ρ x <;> simp only [hv, reduceCtorEq] at h
    cases hv' : ρ y <;> simp only [hv', Res.ok.injEq, reduceCtorEq, true_and] at h
    obtain ⟨rfl, rfl⟩ := h
    rw [hv] at hx
    rw [hv'] at hy
    obtain rfl := hx.int_inv
    obtain rfl := hy.int_inv
    refine ⟨⟨_, ?_, .g _ _ (.int _ _)⟩, rfl⟩
    simp only [resolve, invoke, builtin, Builtin.max_, hmap, Sem.run_bind, Sem.run_pure, Result.andThen_ok]
    simp [Builtin.max2, List.foldlM]
  · -- max of three
    rename_i x y z hargs
    simp only [Option.some.injEq] at hc
    subst hc
    obtain ⟨hl, hr⟩ := opds_rel hρ _ _ hargs
    have hx := hr 0 (by simp)
    have hy := hr 1 (by simp)
    have hz := hr 2 (by simp)
    have hlen : (args.toList.map η).length = 3 := by simpa using hl
    have hmap : (args.map η).toList = [(args.toList.map η).getD 0 default, (args.toList.map η).getD 1 default, (args.toList.map η).getD 2 default] := by
      rw [Array.toList_map]
      generalize args.toList.map η = L at hlen
      match L, hlen with
      | [a, b, c], _ => rfl
    generalize hX : (args.toList.map η).getD 0 default = X at hx hmap
    generalize hY : (args.toList.map η).getD 1 default = Y at hy hmap
    generalize hZ : (args.toList.map η).getD 2 default = Z at hz hmap
    have hx : VRel ι w M (ρ x) X := by simpa using hx
    have hy : VRel ι w M (ρ y) Y := by simpa using hy
    have hz : VRel ι w M (ρ z) Z := by simpa using hz
    simp only [opD] at h
    cases hv : ρ x <;> simp only [hv, reduceCtorEq] at h
    cases hv' : ρ y <;> simp only [hv', reduceCtorEq] at h
    cases hv'' : ρ z <;> simp only [hv'', Res.ok.injEq, reduceCtorEq, true_and] at h
    obtain ⟨rfl, rfl⟩ := h
    rw [hv] at hx
    rw [hv'] at hy
    rw [hv''] at hz
    obtain rfl := hx.int_inv
    obtain rfl := hy.int_inv
    obtain rfl := hz.int_inv
    refine ⟨⟨_, ?_, .g _ _ (.int _ _)⟩, rfl⟩
    simp only [resolve, invoke, builtin, Builtin.max_, hmap, Sem.run_bind, Sem.run_pure, Result.andThen_ok]
    simp [Builtin.max2, List.foldlM]
  · -- append
    exfalso
    split at hc
    · split at hc
      · split at hc
        · simp at hc
        · split at hc
          · simp at hc
          · split at hc
            · simp only [Option.some.injEq] at hc; subst hc; simp [AOp.isE] at hE
            · simp at hc
      · simp at hc
    · obtain ⟨_, _, _, _, _, _, _, _, _, _, _, _, rfl⟩ := compAppz_spec hc
      simp [AOp.isE] at hE
    · simp at hc
  · exfalso
    split at hc
    · simp only [Option.some.injEq] at hc; subst hc; simp [AOp.isE] at hE
    · split at hc
      · simp only [Option.some.injEq] at hc; subst hc; simp [AOp.isE] at hE
      · simp at hc
  · exfalso
    obtain ⟨y, _, rfl⟩ := map_some hc
    simp [AOp.isE] at hE
  · exfalso
    obtain ⟨y, _, rfl⟩ := map_some hc
    simp [AOp.isE] at hE
  · simp at hc
theorem op_pure {o : Oper} {a : AOp} {v : AV} {e : Eff} (hc : compOp P o.op = some a) (hE : a.isE = false) (hA : a.isA = false) (hρ : ORel ι w M ρ η) (hG : HGet ι w M get) (h : opD get nx ρ a = .ok true v e) :
    Pv P ι w M (execOp η o) v e := by
  obtain ⟨dst, op, type, pos, after, guard⟩ := o
  simp only at hc
  unfold compOp at hc
  split at hc
  · -- move
    obtain ⟨y, hy, rfl⟩ := map_some hc
    simp only [opD, Res.ok.injEq, true_and] at h
    obtain ⟨rfl, rfl⟩ := h
    exact ⟨⟨_, by simp [execOp], hρ _ _ hy⟩, rfl⟩
  · obtain ⟨y, hy, rfl⟩ := map_some hc
    simp only [opD, Res.ok.injEq, true_and] at h
    obtain ⟨rfl, rfl⟩ := h
    exact ⟨⟨_, by simp [execOp], hρ _ _ hy⟩, rfl⟩
  · -- pick
    rename_i c a b
    split at hc
    · rename_i c' a' b' h1 h2 h3
      simp only [Option.some.injEq] at hc
      subst hc
      simp only [opD] at h
      have hcv := hρ _ _ h1
      cases hb : ρ c' <;> simp only [hb, Res.ok.injEq, reduceCtorEq, true_and] at h
      rename_i t
      obtain ⟨rfl, rfl⟩ := h
      rw [hb] at hcv
      have hcv := hcv.bool_inv
      cases t
      · exact ⟨⟨η b, by simp [execOp, asBool, hcv], hρ _ _ h3⟩, rfl⟩
      · exact ⟨⟨η a, by simp [execOp, asBool, hcv], hρ _ _ h2⟩, rfl⟩
    · simp at hc
  · obtain ⟨y, hy, rfl⟩ := map_some hc
    simp [AOp.isA] at hA
  · obtain ⟨y, hy, rfl⟩ := map_some hc
    simp [AOp.isA] at hA
  · -- build
    rename_i t ps
    have key : ∀ (z : List (Nat × AV)) (l : List (Nat × Nat × AOpd)), zrl P t = some z → ((∃ fs, P.underlying t = some (.struct fs) ∧ fs.toList.all (fun f => (sizeP P f.type).isSome) = true ∧ structParts P fs ps.toList = some l) ∨ (∃ n e es, P.underlying t = some (.array n e) ∧ sizeP P e = some es ∧ rowParts es ps.toList = some l)) →
        a = mkBuild z l → Pv P ι w M (execOp η ⟨dst, .build t ps, type, pos, after, guard⟩) v e := by
      intro z l hz ht ha
      subst ha
      unfold mkBuild at h
      cases hbig : (Nat.blt 64 (rlLen z) && intsR z) with
      | true =>
        simp only [hbig, cond_true, opD] at h
        simp only [Bool.and_eq_true] at hbig
        split at h
        · rename_i k g hf
          simp only [Res.ok.injEq] at h
          obtain ⟨_, rfl, rfl⟩ := h
          have hf' := fillI_fillA _ _ _ _ _ hf
          rw [← rlList_ints hbig.2] at hf'
          obtain ⟨V, h1, h2⟩ := build_sound (P := P) (w := w) (M := M) (ι := ι) hρ hz ht hf'
          exact Pv.of ⟨⟨V, h1, h2.aggI_of⟩, rfl⟩
        · simp at h
      | false =>
      simp only [hbig, cond_false, opD] at h
      cases hf : fillA ρ (rlList z) l with
      | none => simp [hf] at h
      | some z' =>
        simp only [hf, Res.ok.injEq, true_and] at h
        obtain ⟨rfl, rfl⟩ := h
        exact Pv.of ⟨build_sound hρ hz ht hf, rfl⟩
    split at hc
    · rename_i fs z hu hz
      split at hc
      · rename_i hall
        obtain ⟨l, hl, rfl⟩ := map_some hc
        exact key z l hz (.inl ⟨fs, hu, hall, hl⟩) rfl
      · simp at hc
    · rename_i n el z hu hz
      split at hc
      · rename_i es hs
        obtain ⟨l, hl, rfl⟩ := map_some hc
        exact key z l hz (.inr ⟨n, el, es, hu, hs, hl⟩) rfl
      · simp at hc
    · simp at hc
  · -- buildSlice
    exfalso
    split at hc
    · split at hc
      · split at hc
        · obtain ⟨l, hl, rfl⟩ := map_some hc; simp [AOp.isA] at hA
        · simp at hc
      · simp at hc
    · simp at hc
  · -- load
    rename_i t x
    split at hc
    · rename_i ag n y h1 h2 h3
      split at hc
      · rename_i hk
        simp only [Option.some.injEq] at hc
        subst hc
        have hk' : ag = true ∨ n = 1 := by simpa using hk
        have hx := hρ _ _ h3
        simp only [opD] at h
        cases hv : ρ y <;> simp only [hv, reduceCtorEq] at h
        · rename_i hh off
          rw [hv] at hx
          cases hg : get hh with
          | none => simp [hg] at h
          | some c =>
            simp only [hg, Res.ok.injEq] at h
            obtain ⟨h4, h5, rfl⟩ := h
            exact Pv.of ⟨load_ptr hx hG hg h1 h2 hk' (by rw [← h4, ← h5]), rfl⟩
        · simp only [Res.ok.injEq] at h
          obtain ⟨h4, rfl, rfl⟩ := h
          rw [hv] at hx
          exact Pv.of ⟨load_cptr hx h1 h2 hk' h4, rfl⟩
      · simp at hc
    · simp at hc
  · -- store
    exfalso
    split at hc
    · simp only [Option.some.injEq] at hc; subst hc; simp [AOp.isE] at hE
    · simp at hc
  · -- nilCheck
    obtain ⟨y, hy, rfl⟩ := map_some hc
    have hx := hρ _ _ hy
    simp only [opD] at h
    cases hv : ρ y <;> simp only [hv, Res.ok.injEq, reduceCtorEq, true_and] at h <;> obtain ⟨rfl, rfl⟩ := h <;> rw [hv] at hx
    · obtain ⟨b, base, hi, hX⟩ := hx.ptr_inv
      exact ⟨⟨_, by simp [execOp, hX], hX ▸ hx⟩, rfl⟩
    · obtain ⟨ad, g, hX, _⟩ := hx.cptr_inv
      exact ⟨⟨_, by simp [execOp, hX], hX ▸ hx⟩, rfl⟩
    · obtain ⟨cs, hX, _⟩ := hx.fn_inv
      exact ⟨⟨_, by simp [execOp, hX], hX ▸ hx⟩, rfl⟩
  · -- binOp
    split at hc
    · rename_i x' y' h1 h2
      simp only [Option.some.injEq] at hc
      subst hc
      simp only [opD] at h
      split at h
      · rename_i c' v' hb
        simp only [Res.ok.injEq] at h
        obtain ⟨rfl, rfl, rfl⟩ := h
        exact Pv.of ⟨bin_sound _ _ _ _ _ _ _ _ _ (hρ _ _ h1) (hρ _ _ h2) hb, rfl⟩
      · simp at h
    · simp at hc
  · -- unOp
    obtain ⟨y, hy, rfl⟩ := map_some hc
    exact Pv.of (un_sound _ _ _ _ _ (hρ _ _ hy) h)
  · -- convert
    split at hc
    · rename_i k y h1 h2
      simp only [Option.some.injEq] at hc
      subst hc
      exact Pv.of (conv_sound (hρ _ _ h2) hG h1 h)
    · simp at hc
  · -- makeInterface
    rename_i t x
    split at hc
    · simp at hc
    · simp at hc
    · rename_i D hD1 hD2
      obtain ⟨y, hy, rfl⟩ := map_some hc
      simp only [opD, Res.ok.injEq, true_and] at h
      obtain ⟨rfl, rfl⟩ := h
      refine Pv.of ⟨⟨_, ?_, .iface _ _ _ (hρ _ _ hy)⟩, rfl⟩
      cases hu : P.underlying t with
      | none => exact absurd hu hD2
      | some D =>
        simp only [Instr.makeInterface, Sem.run_bind, run_underlying hu, Result.andThen_ok]
        cases D <;> first | (exact absurd hu (hD1 _)) | rfl
  · -- makeFunc
    rename_i f caps
    obtain ⟨l, hl, rfl⟩ := map_some hc
    simp only [opD, Res.ok.injEq, true_and] at h
    obtain ⟨rfl, rfl⟩ := h
    obtain ⟨h1, h2⟩ := opds_rel hρ _ _ hl
    refine Pv.of ⟨⟨.func (.func f) #[] (caps.map η), by simp [Instr.makeFunc], .fn f _ _ (by simpa using h1) fun j hj => ?_⟩, rfl⟩
    have := h2 j hj
    have hcs : (caps.map η).getD j default = (caps.toList.map η).getD j default := by
      simp [Array.getD_eq_getD_getElem?, List.getD_eq_getElem?_getD]
    rw [hcs]
    exact this
  · -- makeSlice
    exfalso
    split at hc
    · split at hc
      · split at hc
        · simp only [Option.some.injEq] at hc; subst hc; simp [AOp.isA] at hA
        · simp at hc
      · simp at hc
    · simp at hc
  · -- slice
    rename_i t x lo hi
    split at hc
    · rename_i sk y h1 h2
      have key : ∀ (lo' hi' : Option AOpd), (∀ l, lo' = some l → ∃ L, lo = some L ∧ opd L = some l) → (lo' = none → lo = none) → (∀ l, hi' = some l → ∃ L, hi = some L ∧ opd L = some l) → (hi' = none → hi = none) → a = .slice sk y lo' hi' →
          Pv P ι w M (execOp η ⟨dst, .slice t x lo hi none, type, pos, after, guard⟩) v e := by
        intro lo' hi' k1 k2 k3 k4 ha
        subst ha
        simp only [opD] at h
        refine Pv.of ?_
        refine slice_sound (hρ _ _ h2) hG (lo := lo'.map ρ) (hi := hi'.map ρ) (fun x hx => ?_) (fun hn => ?_) (fun x hx => ?_) (fun hn => ?_) h1 h
        · obtain ⟨l, hl, rfl⟩ := map_some hx
          obtain ⟨L, rfl, hL⟩ := k1 l hl
          exact ⟨_, rfl, hρ _ _ hL⟩
        · rw [k2 (by simpa using hn)]; rfl
        · obtain ⟨l, hl, rfl⟩ := map_some hx
          obtain ⟨L, rfl, hL⟩ := k3 l hl
          exact ⟨_, rfl, hρ _ _ hL⟩
        · rw [k4 (by simpa using hn)]; rfl
      split at hc
      · simp only [Option.some.injEq] at hc
        exact key none none (by simp) (by simp) (by simp) (by simp) hc.symm
      · rename_i l
        obtain ⟨l', hl', rfl⟩ := map_some hc
        exact key (some l') none (fun _ hh => by cases hh; exact ⟨l, rfl, hl'⟩) (by simp) (by simp) (by simp) rfl
      · rename_i l
        obtain ⟨l', hl', rfl⟩ := map_some hc
        exact key none (some l') (by simp) (by simp) (fun _ hh => by cases hh; exact ⟨l, rfl, hl'⟩) (by simp) rfl
      · rename_i l m
        split at hc
        · rename_i l' m' hl' hm'
          simp only [Option.some.injEq] at hc
          exact key (some l') (some m') (fun _ hh => by cases hh; exact ⟨l, rfl, hl'⟩) (by simp) (fun _ hh => by cases hh; exact ⟨m, rfl, hm'⟩) (by simp) hc.symm
        · simp at hc
    · simp at hc
  · -- fieldAddr
    rename_i t x i
    split at hc
    · rename_i fs y hu hy
      split at hc
      · rename_i f hf
        split at hc
        · rename_i n ag hn ha
          split at hc
          · simp at hc
          · rename_i hn0
            split at hc
            · rename_i hk
              simp only [Option.some.injEq] at hc
              subst hc
              have hk' : ag = true ∨ n = 1 := by simpa using hk
              have hx := hρ _ _ hy
              simp only [opD] at h
              split at h
              · rename_i hh o hv
                simp only [Res.ok.injEq, true_and] at h
                obtain ⟨rfl, rfl⟩ := h
                rw [hv] at hx
                exact Pv.of ⟨fld_ptr hu hf hn hn0 hx, rfl⟩
              · rename_i l hv
                simp only [Res.ok.injEq, Bool.and_eq_true, Bool.or_eq_true, Bool.not_eq_true'] at h
                obtain ⟨⟨h5, h6⟩, rfl, rfl⟩ := h
                rw [hv] at hx
                obtain ⟨ad, g, hX, hs, _⟩ := hx.cptr_inv
                rw [hX] at hx
                refine Pv.of ⟨⟨_, ?_, cptr_sub (A := .nilFunc) ad hk' hx (Nat.le_of_ble_eq_true h5) hs fun hag => ?_⟩, rfl⟩
                · rw [hX]; exact fld_run hu hf hn hn0 ad
                · rcases h6 with h6 | h6
                  · rw [hag] at h6; cases h6
                  · cases hg : l.getD f.offset .undef <;> first | rfl | (rw [hg] at h6; simp [AV.isAgg] at h6)
              · simp at h
            · simp at hc
        · simp at hc
      · simp at hc
    · simp at hc
  · -- indexAddr
    rename_i t x i
    split at hc
    · rename_i el x' i' hu hx hi
      split at hc
      · rename_i es ag hs ha
        split at hc
        · simp at hc
        · rename_i h0
          split at hc
          · rename_i hk
            simp only [Option.some.injEq] at hc
            subst hc
            have hk' : ag = true ∨ es = 1 := by simpa using hk
            have hX := hρ _ _ hx
            have hI := hρ _ _ hi
            refine Pv.of ?_
            simp only [opD, idxA] at h
            split at h
            · rename_i k n hv
              rw [hv] at hI
              obtain hI := hI.int_inv
              simp only [hI]
              split at h
              · rename_i ee hh off len hvx
                simp only [Res.ok.injEq, Bool.and_eq_true, decide_eq_true_eq] at h
                obtain ⟨⟨⟨h1, h2⟩, h3⟩, rfl, rfl⟩ := h
                obtain rfl := Nat.eq_of_beq_eq_true h3
                rw [hvx] at hX
                exact ⟨idx_sl hu hs hX h1 h2, rfl⟩
              · rename_i k' l hvx
                simp only [Res.ok.injEq, Bool.and_eq_true, decide_eq_true_eq, Bool.not_eq_true'] at h
                obtain ⟨⟨⟨h1, h2⟩, h3⟩, rfl, rfl⟩ := h
                rw [hvx] at hX
                obtain rfl : es = 1 := hk'.resolve_left (by simp [h3])
                exact ⟨idx_ro hu hs rfl hX h1 h2 rfl (fun j hj => by obtain rfl := Nat.lt_one_iff.1 hj; simp [AV.flat]), rfl⟩
              · rename_i l hvx
                simp only [Res.ok.injEq, Bool.and_eq_true, decide_eq_true_eq, Bool.not_eq_true'] at h
                obtain ⟨⟨⟨h1, h2⟩, h3⟩, rfl, rfl⟩ := h
                rw [hvx] at hX
                obtain rfl : es = 1 := hk'.resolve_left (by simp [h3])
                exact ⟨idx_ro hu hs rfl hX h1 h2 rfl (fun j hj => by obtain rfl := Nat.lt_one_iff.1 hj; simp [AV.flat]), rfl⟩
              · rename_i ee l hvx
                simp only [Res.ok.injEq, Bool.and_eq_true, decide_eq_true_eq] at h
                obtain ⟨⟨⟨h1, h2⟩, h3⟩, rfl, rfl⟩ := h
                obtain rfl := Nat.eq_of_beq_eq_true h3
                rw [hvx] at hX
                refine ⟨idx_ro hu hs rfl hX h1 h2 rfl (fun j hj => ?_), rfl⟩
                rw [ro_div _ _ _ h0, ro_mod, Nat.div_eq_of_lt hj, Nat.mod_eq_of_lt hj, Nat.add_zero]
              · rename_i hq hvx
                cases hq
              · simp at h
            · simp at h
          · simp at hc
      · simp at hc
    · rename_i m el x' i' hu hx hi
      split at hc
      · rename_i es ag hs ha
        split at hc
        · simp at hc
        · rename_i h0
          split at hc
          · rename_i hk
            simp only [Option.some.injEq] at hc
            subst hc
            have hX := hρ _ _ hx
            have hI := hρ _ _ hi
            refine Pv.of ?_
            simp only [opD, idxA] at h
            split at h
            · rename_i k n hv
              rw [hv] at hI
              obtain hI := hI.int_inv
              simp only [hI]
              cases hvx : ρ x' <;> simp only [hvx, Res.ok.injEq, reduceCtorEq, Bool.and_eq_true, decide_eq_true_eq, and_true] at h
              obtain ⟨⟨h1, h2⟩, rfl, rfl⟩ := h
              rw [hvx] at hX
              exact ⟨idx_arr hu hs hX h1 h2, rfl⟩
            · simp at h
          · simp at hc
      · simp at hc
    · simp at hc
  · -- extract
    rename_i x i
    obtain ⟨y, hy, rfl⟩ := map_some hc
    have hx := hρ _ _ hy
    simp only [opD] at h
    cases hv : ρ y <;> simp only [hv, Res.ok.injEq, reduceCtorEq] at h
    rename_i l
    obtain ⟨h1, rfl, rfl⟩ := h
    rw [hv] at hx
    obtain ⟨cs, hX, hl, hg⟩ := hx.tup_inv
    rw [blt_eq, decide_eq_true_eq] at h1
    have hi' : i < cs.size := by omega
    refine Pv.of ⟨⟨cs[i], ?_, ?_⟩, rfl⟩
    · simp [Instr.extract, hX, hi']
    · have := hg i h1
      simpa [Array.getD, hi'] using this
  · -- call
    exact call_pure hc hE hρ h
  · simp at hc
end
end Go.Ab
set_option linter.unusedVariables false
set_option linter.unusedSimpArgs false
set_option autoImplicit false
namespace Go.Ab
section
variable {P : Program} {ι : Iota} {s : St} {w : World} {M : Nat → Prop} {ρ : AOpd → AV} {η : Operand → Value} {get : Nat → Option Chunk} {nx : Nat}
def MkN (P : Program) (ι : Iota) (w : World) (M : Nat → Prop) (s : Sem Next) (nx : Nat) (v : AV) (c : Chunk) : Prop :=
  ∃ V cs T, s.run P w = .ok (.value V) (w.alloc (.cells cs T)) ∧ c.size ≤ cs.size ∧ (∀ j, j < c.size → VRel ι w M (c.get j) (cs.getD j default)) ∧
    ∀ ι' M', ι' nx = some (some (w.heap.size, 0)) → VRel ι' (w.alloc (.cells cs T)) M' v V
theorem MkN.of {o : Sem Value} {v : AV} {c : Chunk} (h : Mk P ι w M o nx v c) : MkN P ι w M (do pure (.value (← o)) : Sem Next) nx v c := by
  obtain ⟨V, cs, T, h1, h2⟩ := h
  exact ⟨V, cs, T, by simp [h1], h2⟩
theorem mkBuild_isA (z : List (Nat × AV)) (l : List (Nat × Nat × AOpd)) : (mkBuild z l).isA = false := by
  unfold mkBuild
  cases Nat.blt 64 (rlLen z) && intsR z <;> rfl
theorem mkBuild_isE (z : List (Nat × AV)) (l : List (Nat × Nat × AOpd)) : (mkBuild z l).isE = false := by
  unfold mkBuild
  cases Nat.blt 64 (rlLen z) && intsR z <;> rfl
theorem op_make {o : Oper} {a : AOp} {v : AV} {e : Eff} (hc : compOp P o.op = some a) (hA : a.isA = true) (hρ : ORel ι w M ρ η) (h : opD get nx ρ a = .ok true v e) :
    ∃ c, e = .new c ∧ MkN P ι w M (execOp η o) nx v c := by
  obtain ⟨dst, op, type, pos, after, guard⟩ := o
  simp only at hc
  unfold compOp at hc
  split at hc
  · obtain ⟨y, hy, rfl⟩ := map_some hc
    simp [AOp.isA] at hA
  · obtain ⟨y, hy, rfl⟩ := map_some hc
    simp [AOp.isA] at hA
  · split at hc
    · simp only [Option.some.injEq] at hc; subst hc; simp [AOp.isA] at hA
    · simp at hc
  · -- alloc
    obtain ⟨z, hz, rfl⟩ := map_some hc
    simp only [opD, Res.ok.injEq, true_and] at h
    obtain ⟨rfl, rfl⟩ := h
    exact ⟨_, rfl, MkN.of (alloc_sound hz)⟩
  · -- box
    obtain ⟨y, hy, rfl⟩ := map_some hc
    have hx := hρ _ _ hy
    simp only [opD] at h
    split at h
    · rename_i l hv
      simp only [Res.ok.injEq, true_and] at h
      obtain ⟨rfl, rfl⟩ := h
      exact ⟨_, rfl, MkN.of (box_sound hx (.inl ⟨l, hv, rfl⟩))⟩
    · rename_i n k g hv
      simp only [Res.ok.injEq, true_and] at h
      obtain ⟨rfl, rfl⟩ := h
      exact ⟨_, rfl, MkN.of (box_sound hx (.inr (.inl ⟨n, k, g, hv, rfl⟩)))⟩
    · simp only [Res.ok.injEq] at h
      obtain ⟨h1, rfl, rfl⟩ := h
      exact ⟨_, rfl, MkN.of (box_sound hx (.inr (.inr ⟨h1, rfl⟩)))⟩
  · exfalso
    split at hc
    · split at hc
      · obtain ⟨l, _, rfl⟩ := map_some hc; (rw [mkBuild_isA] at hA; cases hA)
      · simp at hc
    · split at hc
      · obtain ⟨l, _, rfl⟩ := map_some hc; (rw [mkBuild_isA] at hA; cases hA)
      · simp at hc
    · simp at hc
  · -- buildSlice
    rename_i t n ps
    split at hc
    · rename_i el hu
      split at hc
      · rename_i es z rk hs hz hrk
        split at hc
        · rename_i hcond
          simp only [Bool.and_eq_true, decide_eq_true_eq] at hcond
          obtain ⟨⟨h1, h2⟩, h3⟩ := hcond
          obtain ⟨l, hl, rfl⟩ := map_some hc
          simp only [opD] at h
          cases hf : fillA ρ (repL n (rlList z)) l with
          | none => simp [hf] at h
          | some z' =>
            simp only [hf] at h
            cases hr : rowOf rk z' with
            | none => simp [hr] at h
            | some q =>
              obtain ⟨b, c⟩ := q
              simp only [hr, Res.ok.injEq] at h
              obtain ⟨rfl, rfl, rfl⟩ := h
              exact ⟨_, rfl, MkN.of (bslice_sound hρ hu hs hz h2 h1 h3 hl hf hr)⟩
        · simp at hc
      · simp at hc
    · simp at hc
  · split at hc
    · split at hc
      · simp only [Option.some.injEq] at hc; subst hc; simp [AOp.isA] at hA
      · simp at hc
    · simp at hc
  · split at hc
    · simp only [Option.some.injEq] at hc; subst hc; simp [AOp.isA] at hA
    · simp at hc
  · obtain ⟨y, hy, rfl⟩ := map_some hc
    simp [AOp.isA] at hA
  · split at hc
    · simp only [Option.some.injEq] at hc; subst hc; simp [AOp.isA] at hA
    · simp at hc
  · obtain ⟨y, hy, rfl⟩ := map_some hc
    simp [AOp.isA] at hA
  · split at hc
    · simp only [Option.some.injEq] at hc; subst hc; simp [AOp.isA] at hA
    · simp at hc
  · split at hc
    · simp at hc
    · simp at hc
    · obtain ⟨y, hy, rfl⟩ := map_some hc
      simp [AOp.isA] at hA
  · obtain ⟨y, hy, rfl⟩ := map_some hc
    simp [AOp.isA] at hA
  · -- makeSlice
    rename_i t l cp
    split at hc
    · rename_i el hu
      split at hc
      · rename_i es b z rk x hs hb hz hrk hx
        split at hc
        · rename_i hcond
          simp only [Bool.and_eq_true, decide_eq_true_eq] at hcond
          obtain ⟨⟨⟨h1, h2⟩, h3⟩, h4⟩ := hcond
          simp only [Option.some.injEq] at hc
          subst hc
          simp only [opD] at h
          have hxv := hρ _ _ hx
          cases hv : ρ x <;> simp only [hv, Res.ok.injEq, reduceCtorEq] at h
          rename_i k n
          simp only [Bool.and_eq_true, decide_eq_true_eq] at h
          obtain ⟨⟨⟨h5, h6⟩, h7⟩, rfl, rfl⟩ := h
          rw [hv] at hxv
          have hX := hxv.int_inv
          have hcp : η cp = η l ∨ η cp = .int k n := by
            unfold sameOpd at h1
            split at h1
            · left; rw [eq_of_beq h1]
            · rename_i k1 a1 k2 b1
              simp only [Bool.and_eq_true, decide_eq_true_eq] at h1
              obtain ⟨rfl, rfl⟩ := h1
              exact .inl rfl
            · cases h1
          have hcp : η cp = .int k n := by
            rcases hcp with h | h
            · rw [h, hX]
            · exact h
          refine ⟨_, rfl, ?_⟩
          have := MkN.of (mkslice_sound (P := P) (ι := ι) (w := w) (M := M) (k := k) (n := n) (nx := nx) hu hs hb hz h2 h3 h4 h5 h6 h7)
          simpa only [execOp, hX, hcp] using this
        · simp at hc
      · simp at hc
    · simp at hc
  · split at hc
    · split at hc
      · simp only [Option.some.injEq] at hc; subst hc; simp [AOp.isA] at hA
      · obtain ⟨y, hy, rfl⟩ := map_some hc; simp [AOp.isA] at hA
      · obtain ⟨y, hy, rfl⟩ := map_some hc; simp [AOp.isA] at hA
      · split at hc
        · simp only [Option.some.injEq] at hc; subst hc; simp [AOp.isA] at hA
        · simp at hc
    · simp at hc
  · split at hc
    · split at hc
      · split at hc
        · split at hc
          · simp at hc
          · split at hc
            · simp only [Option.some.injEq] at hc; subst hc; simp [AOp.isA] at hA
            · simp at hc
        · simp at hc
      · simp at hc
    · simp at hc
  · split at hc
    · split at hc
      · split at hc
        · simp at hc
        · split at hc
          · simp only [Option.some.injEq] at hc; subst hc; simp [AOp.isA] at hA
          · simp at hc
      · simp at hc
    · split at hc
      · split at hc
        · simp at hc
        · split at hc
          · simp only [Option.some.injEq] at hc; subst hc; simp [AOp.isA] at hA
          · simp at hc
      · simp at hc
    · simp at hc
  · obtain ⟨y, hy, rfl⟩ := map_some hc
    simp [AOp.isA] at hA
  · exfalso
    rename_i c
    unfold compCall at hc
    split at hc
    · split at hc <;> simp only [Option.some.injEq, reduceCtorEq] at hc <;> subst hc <;> simp [AOp.isA] at hA
    · simp only [Option.some.injEq] at hc; subst hc; simp [AOp.isA] at hA
    · simp only [Option.some.injEq] at hc; subst hc; simp [AOp.isA] at hA
    · simp only [Option.some.injEq] at hc; subst hc; simp [AOp.isA] at hA
    · split at hc
      · split at hc
        · split at hc
          · simp at hc
          · split at hc
            · simp at hc
            · split at hc
              · simp only [Option.some.injEq] at hc; subst hc; simp [AOp.isA] at hA
              · simp at hc
        · simp at hc
      · obtain ⟨_, _, _, _, _, _, _, _, _, _, _, _, rfl⟩ := compAppz_spec hc
        simp [AOp.isA] at hA
      · simp at hc
    · split at hc
      · simp only [Option.some.injEq] at hc; subst hc; simp [AOp.isA] at hA
      · split at hc
        · simp only [Option.some.injEq] at hc; subst hc; simp [AOp.isA] at hA
        · simp at hc
    · obtain ⟨y, _, rfl⟩ := map_some hc
      simp [AOp.isA] at hA
    · obtain ⟨y, _, rfl⟩ := map_some hc
      simp [AOp.isA] at hA
    · simp at hc
  · simp at hc
def DoesN (P : Program) (n0 : Nat) (ι : Iota) (s : St) (w : World) (M : Nat → Prop) (o : Sem Next) (v : AV) (s' : St) : Prop :=
  ∃ V ι' w' M', (o.run P w = .ok (.value V) w' ∨ (o.run P w = .ok .skip w' ∧ V = undef)) ∧ VRel ι' w' M' v V ∧ Rep ι' s' w' M' ∧ Go n0 ι s w M ι' s' w' M' ∧ (∀ h p, ι h = some p → ι' h = some p) ∧ Imm w M w' M'
theorem DoesN.of {n0 : Nat} {o : Sem Value} {v : AV} {s' : St} (h : Does P n0 ι s w M o v s') : DoesN P n0 ι s w M (do pure (.value (← o)) : Sem Next) v s' := by
  obtain ⟨V, ι', w', M', h1, h2⟩ := h
  exact ⟨V, ι', w', M', .inl (by simp [h1]), h2⟩
theorem callee_enter {f : Nat} {args : Array Value} (h : hasBody P f = true) : (callFunc f args).run P w = .ok (.enter f args) w := by
  unfold hasBody at h
  cases hf : P.funcs[f]? with
  | none => simp [hf] at h
  | some fn =>
    simp only [hf, Bool.and_eq_true, bne_iff_ne, ne_eq] at h
    obtain ⟨h1, h2⟩ := h
    have h3 : ¬ (fn.body = none) := by intro h; rw [h] at h1; simp at h1
    simp [callFunc, hf, h2, h3]
theorem VRels.append {l m : List AV} {A B : Array Value} (h : VRels ι w M l A) (k : VRels ι w M m B) : VRels ι w M (l ++ m) (A ++ B) := by
  obtain ⟨h1, h2⟩ := h
  obtain ⟨k1, k2⟩ := k
  refine ⟨by simp [h1, k1], fun j hj => ?_⟩
  rw [getD_append]
  by_cases hl : j < l.length
  · have : j < A.size := by omega
    simpa [hl, Array.getD_eq_getD_getElem?, Array.getElem?_append, this] using h2 j hl
  · have h3 : ¬ j < A.size := by omega
    have h4 := k2 (j - l.length) (by simp at hj; omega)
    rw [← h1] at h4
    simpa [h1, hl, Array.getD_eq_getD_getElem?, Array.getElem?_append, h3] using h4
theorem find_add64 (fn : Func) (h : fn.name = "sync/atomic.AddUint64") (h2 : fn.origin = "") : Extern.findNext fn = none ∧ Extern.find fn = some (Extern.Atomic.update (Op.intArith .add) .u64 true) := by
  cases fn
  simp only at h h2
  subst h
  subst h2
  exact ⟨by kernel_rfl, by kernel_rfl⟩
theorem find_add32 (fn : Func) (h : fn.name = "sync/atomic.AddUint32") (h2 : fn.origin = "") : Extern.findNext fn = none ∧ Extern.find fn = some (Extern.Atomic.update (Op.intArith .add) .u32 true) := by
  cases fn
  simp only at h h2
  subst h
  subst h2
  exact ⟨by kernel_rfl, by kernel_rfl⟩
theorem find_load64 (fn : Func) (h : fn.name = "sync/atomic.LoadUint64") (h2 : fn.origin = "") : Extern.findNext fn = none ∧ Extern.find fn = some (Extern.Atomic.loadT (.int .u64)) := by
  cases fn
  simp only at h h2
  subst h
  subst h2
  exact ⟨by kernel_rfl, by kernel_rfl⟩
theorem find_store64 (fn : Func) (h : fn.name = "sync/atomic.StoreUint64") (h2 : fn.origin = "") : Extern.findNext fn = none ∧ Extern.find fn = some Extern.Atomic.storeT := by
  cases fn
  simp only at h h2
  subst h
  subst h2
  exact ⟨by kernel_rfl, by kernel_rfl⟩
def atomF : Atom → Array Value → Sem Value
  | .add k => Extern.Atomic.update (Op.intArith .add) k true
  | .load k => Extern.Atomic.loadT (.int k)
  | .store _ => Extern.Atomic.storeT
theorem atomOf_spec {f : Nat} {k : Atom} (h : atomOf P f = some k) : ∃ fn, P.funcs[f]? = some fn ∧ (fn.name == "runtime.NumGoroutine") = false ∧ fn.body.isNone = true ∧ Extern.findNext fn = none ∧ Extern.find fn = some (atomF k) := by
  unfold atomOf at h
  split at h
  · rename_i fn hf
    split at h
    · simp at h
    · rename_i hb
      split at h
      · simp at h
      · rename_i ho
        have ho : fn.origin = "" := by simpa using ho
        have hb : fn.body.isNone = true := by simpa using hb
        have fin : ∀ nm : String, fn.name = nm → (nm == "runtime.NumGoroutine") = false → Extern.findNext fn = none ∧ Extern.find fn = some (atomF k) → ∃ fn, P.funcs[f]? = some fn ∧ (fn.name == "runtime.NumGoroutine") = false ∧ fn.body.isNone = true ∧ Extern.findNext fn = none ∧ Extern.find fn = some (atomF k) := fun nm h1 h2 h3 =>
          ⟨fn, hf, by rw [h1]; exact h2, hb, h3⟩
        split at h
        · rename_i hn
          simp only [Option.some.injEq] at h
          subst h
          exact fin _ (by simpa using hn) (by decide) (find_add64 fn (by simpa using hn) ho)
        · split at h
          · rename_i hn
            simp only [Option.some.injEq] at h
            subst h
            exact fin _ (by simpa using hn) (by decide) (find_add32 fn (by simpa using hn) ho)
          · split at h
            · rename_i hn
              simp only [Option.some.injEq] at h
              subst h
              exact fin _ (by simpa using hn) (by decide) (find_load64 fn (by simpa using hn) ho)
            · split at h
              · rename_i hn
                simp only [Option.some.injEq] at h
                subst h
                exact fin _ (by simpa using hn) (by decide) (find_store64 fn (by simpa using hn) ho)
              · simp at h
  · simp at h
theorem atom_sound {n0 f : Nat} {k : Atom} {L : List AV} {args : Array Value} {v : AV} {e : Eff} (hk : atomOf P f = some k) (hR : Rep ι s w M) (hn : n0 ≤ s.next) (hV : VRels ι w M L args) (h : atomA s.get k L = .ok true v e) :
    DoesN P n0 ι s w M (callFunc f args) v (s.app e) := by
  obtain ⟨fn, hf, hname, hb, hnx, hfind⟩ := atomOf_spec hk
  unfold atomA at h
  split at h
  · rename_i hh off r
    have hX := hV.2 0 (by simp)
    simp only [List.getD_cons_zero] at hX
    obtain ⟨b, base, hi, hXe⟩ := hX.ptr_inv
    split at h
    · rename_i c hg
      split at h
      · rename_i b0 k0 n hld
        have main : b0 = true → w.cell? ⟨b, base + off, none⟩ = some (.int k0 n) ∧ w.frozen? ⟨b, base + off, none⟩ = false ∧ off + 1 ≤ c.size := fun hb0 => by
          subst hb0
          obtain ⟨h1, h2⟩ := ld_spec hld (.inr rfl)
          have hget : c.get off = .int k0 n := by
            rcases h2 with ⟨h2, _⟩ | ⟨h2, _⟩ | ⟨_, h2⟩
            · cases h2
            · cases h2
            · exact h2.symm
          rcases hR.hget hh c _ hg hi with ⟨h4, _⟩ | ⟨b', base', h4, hC⟩
          · cases h4
          · simp only [Option.some.injEq, Prod.mk.injEq] at h4
            obtain ⟨rfl, rfl⟩ := h4
            obtain ⟨V, k1, k2⟩ := hC.cell (j := off) (by omega)
            rw [hget] at k2
            obtain rfl := k2.int_inv
            refine ⟨k1, ?_, h1⟩
            obtain ⟨cs, T, fr, q1, q2, q3, q4⟩ := hC
            have := q2 (base + off) (by omega)
            obtain ⟨lo, hi⟩ := fr
            simp only [World.frozen?, q1]
            simp only at this
            simp; omega
        have one : ∀ (kk : IntKind) (m : Int) (c' : Chunk), off + 1 ≤ c.size → c.put off [.int kk m] = some c' → Rep ι (s.app (.set hh c')) (w.setCell ⟨b, base + off, none⟩ (.int kk m)) M ∧ Go n0 ι s w M ι (s.app (.set hh c')) (w.setCell ⟨b, base + off, none⟩ (.int kk m)) M := fun kk m c' hle hp => by
          obtain ⟨p1, p2⟩ := put_spec hp (by simpa using hle)
          exact set_core (l := [.int kk m]) (vs := [.int kk m]) hR hn hi hg rfl (fun j hj => by
            obtain rfl : j = 0 := by simp at hj; exact hj
            exact .g _ _ (.int _ _)) (by simpa using hle) p1 p2
        split at h
        · simp only [Res.ok.injEq, Bool.and_eq_true, decide_eq_true_eq] at h
          obtain ⟨⟨hb0, rfl⟩, rfl, rfl⟩ := h
          obtain ⟨h1, h2, h3⟩ := main hb0
          have hargs : args = #[.pointer (some ⟨b, base + off, none⟩)] := by
            have hs := hV.1
            simp only [List.length_singleton] at hs
            apply Array.ext
            · simpa using hs
            · intro i i1 i2
              obtain rfl : i = 0 := by simp at i2; exact i2
              simpa [Array.getD, i1] using hXe
          subst hargs
          exact ⟨_, ι, w, M, .inl (run_call_load hf hname hb hnx _ hfind h1), .g _ _ (.int _ _), hR, Go.refl _ _ _ _ hn, fun _ _ h => h, Imm.refl _ _⟩
        · rename_i k1 k2 m
          split at h
          · rename_i c' hp
            simp only [Res.ok.injEq, Bool.and_eq_true, decide_eq_true_eq] at h
            obtain ⟨⟨⟨hb0, rfl⟩, rfl⟩, rfl, rfl⟩ := h
            obtain ⟨h1, h2, h3⟩ := main hb0
            have hY := hV.2 1 (by simp)
            simp only [List.getD_cons_succ, List.getD_cons_zero] at hY
            have hYe := hY.int_inv
            have hargs : args = #[.pointer (some ⟨b, base + off, none⟩), .int k2 m] := by
              have hs := hV.1
              simp only [List.length_cons, List.length_nil] at hs
              apply Array.ext
              · simpa using hs
              · intro i i1 i2
                rcases (by simp at i2; omega : i = 0 ∨ i = 1) with rfl | rfl
                · simpa [Array.getD, i1] using hXe
                · simpa [Array.getD, i1] using hYe
            subst hargs
            obtain ⟨q1, q2⟩ := one _ _ _ h3 hp
            exact ⟨_, ι, _, M, .inl (run_call_store hf hname hb hnx hfind h1 h2), .g _ _ (.tup [] #[] rfl fun j hj => by simp at hj), q1, q2, fun _ _ h => h, GoImm q2 fun b hb => hR.ownM hb⟩
          · simp at h
        · rename_i k1 k2 m
          split at h
          · rename_i c' hp
            simp only [Res.ok.injEq, Bool.and_eq_true, decide_eq_true_eq] at h
            obtain ⟨⟨⟨hb0, rfl⟩, rfl⟩, rfl, rfl⟩ := h
            obtain ⟨h1, h2, h3⟩ := main hb0
            have hY := hV.2 1 (by simp)
            simp only [List.getD_cons_succ, List.getD_cons_zero] at hY
            have hYe := hY.int_inv
            have hargs : args = #[.pointer (some ⟨b, base + off, none⟩), .int k2 m] := by
              have hs := hV.1
              simp only [List.length_cons, List.length_nil] at hs
              apply Array.ext
              · simpa using hs
              · intro i i1 i2
                rcases (by simp at i2; omega : i = 0 ∨ i = 1) with rfl | rfl
                · simpa [Array.getD, i1] using hXe
                · simpa [Array.getD, i1] using hYe
            subst hargs
            obtain ⟨q1, q2⟩ := one _ _ _ h3 hp
            exact ⟨_, ι, _, M, .inl (run_call_add hf hname hb hnx _ hfind h1 h2 (by simp [Op.intArith])), .g _ _ (.int _ _), q1, q2, fun _ _ h => h, GoImm q2 fun b hb => hR.ownM hb⟩
          · simp at h
        · simp at h
      · simp at h
    · simp at h
  · simp at h
theorem meth_run {m : String} {t f : Nat} (h : lookN (methTbl P m) t = some f) (V : Value) : hasBody P f = true ∧ ∀ n, (method (n + 1) t V m).run P w = .ok (f, V) w := by
  have hmem : ∀ l : List (Nat × Nat), lookN l t = some f → (t, f) ∈ l := by
    intro l
    induction l with
    | nil => intro h; simp [lookN] at h
    | cons p r ih =>
      intro h
      simp only [lookN] at h
      cases hb : Nat.beq p.1 t with
      | true =>
        simp only [hb, cond_true, Option.some.injEq] at h
        have := Nat.eq_of_beq_eq_true hb
        subst h
        subst this
        simp
      | false =>
        simp only [hb, cond_false] at h
        exact List.mem_cons_of_mem _ (ih h)
  have h1 := hmem _ h
  simp only [methTbl, List.mem_filterMap] at h1
  obtain ⟨t', _, h2⟩ := h1
  unfold methRow at h2
  split at h2
  · rename_i i hi
    split at h2
    · rename_i r hr
      split at h2
      · simp at h2
      · simp at h2
      · rename_i f' d hD hfn hu
        split at h2
        · rename_i hc
          simp only [Option.some.injEq, Prod.mk.injEq] at h2
          obtain ⟨rfl, rfl⟩ := h2
          simp only [Bool.and_eq_true] at hc
          refine ⟨hc.2, fun n => ?_⟩
          have hp : r.path = #[] := by simpa using hc.1
          cases d <;> first | (exact absurd rfl (hD _)) | simp [method, typeInfo, hi, hr, hp, follow, hfn, receiverAt, run_underlying hu, Place.get]
        · simp at h2
      · simp at h2
    · simp at h2
  · simp at h2
theorem call_eff {c : Call} {a : AOp} {type : TypeId} (hc : compCall P c = some a) (hE : a.isE = true) (hR : Rep ι s w M) (hρ : ORel ι w M ρ η) (hη : ∀ f, η (.func f) = .func (.func f) #[] #[]) {n0 : Nat} (hn : n0 ≤ s.next) :
    (∀ v e, opD s.get s.next ρ a = .ok true v e → DoesN P n0 ι s w M (do let d ← resolve η c type; invoke d.target d.args) v (s.app e)) ∧
    (∀ f args, opD s.get s.next ρ a = .call f args → hasBody P f = true → ∃ Vs, (do let d ← resolve η c type; invoke d.target d.args : Sem Next).run P w = .ok (.enter f Vs) w ∧ VRels ι w M args Vs) := by
  obtain ⟨callee, args, argTypes⟩ := c
  unfold compCall at hc
  simp only at hc
  have rels : ∀ l, opds args.toList = some l → VRels ι w M (l.map ρ) (args.map η) := fun l hl => by
    obtain ⟨h1, h2⟩ := opds_rel hρ _ _ hl
    refine ⟨by simpa using h1, fun j hj => ?_⟩
    have hcs : (args.map η).getD j default = (args.toList.map η).getD j default := by
      simp [Array.getD_eq_getD_getElem?, List.getD_eq_getElem?_getD]
    rw [hcs]
    exact h2 j hj
  split at hc
  · split at hc <;> simp only [Option.some.injEq, reduceCtorEq] at hc <;> subst hc <;> simp [AOp.isE] at hE
  · simp only [Option.some.injEq] at hc; subst hc; simp [AOp.isE] at hE
  · simp only [Option.some.injEq] at hc; subst hc; simp [AOp.isE] at hE
  · simp only [Option.some.injEq] at hc; subst hc; simp [AOp.isE] at hE
  · -- append
    rename_i x y hargs
    split at hc
    · rename_i e1 e2 hu1 hu2
      split at hc
      · rename_i es b z hs hb hz
        split at hc
        · simp at hc
        · rename_i hes
          split at hc
          · simp at hc
          · rename_i hb0
            split at hc
            · rename_i hzl
              simp only [Option.some.injEq] at hc
              subst hc
              refine ⟨fun v e h => ?_, fun f args h => ?_⟩
              · simp only [opD] at h
                obtain ⟨h1, h2⟩ := rels _ hargs
                have hx := h2 0 (by simp)
                have hy := h2 1 (by simp)
                have hlen : (args.map η).size = 2 := by simpa using h1
                have hmap : args.map η = #[(args.map η).getD 0 default, (args.map η).getD 1 default] := by
                  apply Array.ext
                  · simp [hlen]
                  · intro i k1 k2
                    simp at k2
                    rcases (by omega : i = 0 ∨ i = 1) with rfl | rfl
                    · simp [Array.getD, hlen, k1]
                    · simp [Array.getD, hlen, k1]
                generalize hX : (args.map η).getD 0 default = X at hx hmap
                generalize hY : (args.map η).getD 1 default = Y at hy hmap
                have hx : VRel ι w M (ρ x) X := by simpa using hx
                have hy : VRel ι w M (ρ y) Y := by simpa using hy
                obtain ⟨t1, ht1⟩ : ∃ t1, argTypes[0]? = some t1 := by
                  cases h : argTypes[0]? with
                  | none => simp [h] at hu1
                  | some t => exact ⟨t, rfl⟩
                obtain ⟨t2, ht2⟩ : ∃ t2, argTypes[1]? = some t2 := by
                  cases h : argTypes[1]? with
                  | none => simp [h] at hu2
                  | some t => exact ⟨t, rfl⟩
                rw [ht1] at hu1
                rw [ht2] at hu2
                simp only [Option.bind_some] at hu1 hu2
                have := append_sound (ty := type) hR hn hu1 ⟨_, hu2⟩ hs hb (Nat.pos_of_ne_zero hb0) hz hzl hx hy h
                obtain ⟨V, ι', w', M', k1, k2⟩ := this
                refine ⟨V, ι', w', M', .inl ?_, k2⟩
                have hAll : (Builtin.append_ argTypes type #[X, Y]).run P w = (Builtin.append_ #[t1, t2] type #[X, Y]).run P w := by
                  simp [Builtin.append_, ht1, ht2]
                simp [resolve, invoke, builtin, hmap, hAll, k1]
              · simp only [opD, appA] at h
                split at h
                · split at h <;> simp at h
                · split at h
                  · split at h <;> simp at h
                  · simp at h
                · simp at h
            · simp at hc
      · simp at hc
    · rename_i e1 kk hu1 hu2
      obtain ⟨es, b, z, rk, hs, hb, hz, he, hb0, hzl, hzo, hgen, rfl⟩ := compAppz_spec hc
      refine ⟨fun v e h => ?_, fun f args h => ?_⟩
      · simp only [opD] at h
        obtain ⟨h1, h2⟩ := rels _ hargs
        have hx := h2 0 (by simp)
        have hy := h2 1 (by simp)
        have hlen : (args.map η).size = 2 := by simpa using h1
        have hmap : args.map η = #[(args.map η).getD 0 default, (args.map η).getD 1 default] := by
          apply Array.ext
          · simp [hlen]
          · intro i k1 k2
            simp at k2
            rcases (by omega : i = 0 ∨ i = 1) with rfl | rfl
            · simp [Array.getD, hlen, k1]
            · simp [Array.getD, hlen, k1]
        generalize hX : (args.map η).getD 0 default = X at hx hmap
        generalize hY : (args.map η).getD 1 default = Y at hy hmap
        simp only [List.map_cons, List.map_nil, List.getD_cons_zero, List.getD_cons_succ] at hx hy
        obtain ⟨t1, ht1⟩ : ∃ t1, argTypes[0]? = some t1 := by
          cases h : argTypes[0]? with
          | none => simp [h] at hu1
          | some t => exact ⟨t, rfl⟩
        obtain ⟨t2, ht2⟩ : ∃ t2, argTypes[1]? = some t2 := by
          cases h : argTypes[1]? with
          | none => simp [h] at hu2
          | some t => exact ⟨t, rfl⟩
        rw [ht1] at hu1
        rw [ht2] at hu2
        simp only [Option.bind_some] at hu1 hu2
        obtain ⟨V, ι', w', M', k1, k2⟩ := appendz_sound (ty := type) hR hn hu1 hu2 hs hb hb0 hz hzl he hzo hgen hx hy h
        refine ⟨V, ι', w', M', .inl ?_, k2⟩
        have hAll : (Builtin.append_ argTypes type #[X, Y]).run P w = (Builtin.append_ #[t1, t2] type #[X, Y]).run P w := by
          simp [Builtin.append_, ht1, ht2]
        simp [resolve, invoke, builtin, hmap, hAll, k1]
      · simp only [opD, appzA] at h
        split at h
        · split at h
          · simp at h
          · split at h
            · split at h <;> simp at h
            · simp at h
          · simp at h
        · simp at h
    · simp at hc
  · -- a function
    rename_i f l hargs
    split at hc
    · rename_i k hk
      simp only [Option.some.injEq] at hc
      subst hc
      refine ⟨fun v e h => ?_, fun f' args' h => ?_⟩
      · simp only [opD] at h
        have := atom_sound hk hR hn (rels _ hargs) h
        simpa [DoesN, resolve, invoke, hη, Deferred.ofValue] using this
      · simp only [opD, atomA] at h
        split at h
        · split at h
          · split at h
            · split at h
              · simp at h
              · split at h <;> simp at h
              · split at h <;> simp at h
              · simp at h
            · simp at h
          · simp at h
        · simp at h
    · split at hc
      · rename_i hb
        simp only [Option.some.injEq] at hc
        subst hc
        refine ⟨fun v e h => by simp [opD] at h, fun f' args' h hb' => ?_⟩
        simp only [opD, Res.call.injEq] at h
        obtain ⟨rfl, rfl⟩ := h
        refine ⟨args.map η, ?_, rels _ hargs⟩
        simp [resolve, invoke, hη, Deferred.ofValue, callee_enter hb]
      · simp at hc
  · rename_i x l _ hargs
    obtain ⟨y, hy, rfl⟩ := map_some hc
    have hx := hρ _ _ hy
    refine ⟨fun v e h => ?_, fun f' args' h hb' => ?_⟩
    · simp only [opD] at h
      split at h <;> simp at h
    · simp only [opD] at h
      cases hv : ρ y <;> simp only [hv, Res.call.injEq, reduceCtorEq] at h
      obtain ⟨rfl, rfl⟩ := h
      rw [hv] at hx
      obtain ⟨cs, hX, hl, hg⟩ := hx.fn_inv
      refine ⟨args.map η ++ cs, ?_, (rels _ hargs).append ⟨hl, hg⟩⟩
      simp [resolve, invoke, hX, Deferred.ofValue, callee_enter hb']
  · rename_i r m l hargs
    obtain ⟨y, hy, rfl⟩ := map_some hc
    have hx := hρ _ _ hy
    refine ⟨fun v e h => ?_, fun f' args' h hb' => ?_⟩
    · simp only [opD, invA] at h
      split at h
      · split at h <;> simp at h
      · simp at h
    · simp only [opD, invA] at h
      split at h
      · rename_i t v hv
        split at h
        · rename_i f hl
          simp only [Res.call.injEq] at h
          obtain ⟨rfl, rfl⟩ := h
          rw [hv] at hx
          obtain ⟨V, hX, hrV⟩ := hx.iface_inv
          obtain ⟨_, hm⟩ := meth_run (P := P) (w := w) hl V
          refine ⟨#[V] ++ args.map η, ?_, ?_⟩
          · have hfuel : P.types.size + Made.depth = (P.types.size + (Made.depth - 1)) + 1 := rfl
            have he : ∀ (X : Value) (B : Array Value), (#[X] ++ B).extract 1 (#[X] ++ B).size = B := fun X B => by
              apply Array.ext'
              simp
            have h0 : ∀ (X : Value) (B : Array Value), (#[X] ++ B)[0]? = some X := fun X B => by
              have : 0 < (#[X] ++ B).size := by simp; omega
              rw [Array.getElem?_eq_getElem this]
              simp [Array.getElem_append]
            simp only [resolve, Sem.run_bind, Sem.run_pure, Result.andThen_ok, invoke]
            rw [h0]
            simp only [hX, callMethod, Sem.run_bind, run_program, Result.andThen_ok, hfuel, hm, callee_enter hb']
            rw [he]
          · have := VRels.append (l := [v]) (m := l.map ρ) (A := #[V]) (B := args.map η) (ι := ι) (w := w) (M := M) ⟨rfl, fun j hj => by
              obtain rfl : j = 0 := by simp at hj; exact hj
              exact hrV⟩ (rels _ hargs)
            exact this
        · simp at h
      · simp at h
  · simp at hc
theorem op_eff {o : Oper} {a : AOp} (hc : compOp P o.op = some a) (hE : a.isE = true) (hR : Rep ι s w M) (hρ : ORel ι w M ρ η) (hη : ∀ f, η (.func f) = .func (.func f) #[] #[]) {n0 : Nat} (hn : n0 ≤ s.next) :
    (∀ v e, opD s.get s.next ρ a = .ok true v e → DoesN P n0 ι s w M (execOp η o) v (s.app e)) ∧
    (∀ f args, opD s.get s.next ρ a = .call f args → hasBody P f = true → ∃ Vs, (execOp η o).run P w = .ok (.enter f Vs) w ∧ VRels ι w M args Vs) := by
  obtain ⟨dst, op, type, pos, after, guard⟩ := o
  simp only at hc
  unfold compOp at hc
  split at hc
  · obtain ⟨y, hy, rfl⟩ := map_some hc
    simp [AOp.isE] at hE
  · obtain ⟨y, hy, rfl⟩ := map_some hc
    simp [AOp.isE] at hE
  · split at hc
    · simp only [Option.some.injEq] at hc; subst hc; simp [AOp.isE] at hE
    · simp at hc
  · obtain ⟨y, hy, rfl⟩ := map_some hc
    simp [AOp.isE] at hE
  · obtain ⟨y, hy, rfl⟩ := map_some hc
    simp [AOp.isE] at hE
  · exfalso
    split at hc
    · split at hc
      · obtain ⟨l, _, rfl⟩ := map_some hc; (rw [mkBuild_isE] at hE; cases hE)
      · simp at hc
    · split at hc
      · obtain ⟨l, _, rfl⟩ := map_some hc; (rw [mkBuild_isE] at hE; cases hE)
      · simp at hc
    · simp at hc
  · exfalso
    split at hc
    · split at hc
      · split at hc
        · obtain ⟨l, hl, rfl⟩ := map_some hc; simp [AOp.isE] at hE
        · simp at hc
      · simp at hc
    · simp at hc
  · split at hc
    · split at hc
      · simp only [Option.some.injEq] at hc; subst hc; simp [AOp.isE] at hE
      · simp at hc
    · simp at hc
  · -- store
    rename_i t x y
    split at hc
    · rename_i n x' y' hn' hx' hy'
      simp only [Option.some.injEq] at hc
      subst hc
      refine ⟨fun v e h => ?_, fun f args h => ?_⟩
      · have hx := hρ _ _ hx'
        have hy := hρ _ _ hy'
        simp only [opD] at h
        obtain ⟨rfl, w', k1, k2, k3⟩ := storeA_sound (P := P) hR hn hx hy hn' h
        refine ⟨undef, ι, w', M, .inr ⟨by simp [execOp, k1], rfl⟩, .undef _, k2, k3, fun _ _ h => h, GoImm k3 fun b hb => hR.ownM hb⟩
      · simp only [opD, storeA] at h
        split at h
        · split at h
          · split at h
            · split at h <;> simp at h
            · split at h <;> simp at h
          · simp at h
        · simp at h
    · simp at hc
  · obtain ⟨y, hy, rfl⟩ := map_some hc
    simp [AOp.isE] at hE
  · split at hc
    · simp only [Option.some.injEq] at hc; subst hc; simp [AOp.isE] at hE
    · simp at hc
  · obtain ⟨y, hy, rfl⟩ := map_some hc
    simp [AOp.isE] at hE
  · split at hc
    · simp only [Option.some.injEq] at hc; subst hc; simp [AOp.isE] at hE
    · simp at hc
  · split at hc
    · simp at hc
    · simp at hc
    · obtain ⟨y, hy, rfl⟩ := map_some hc
      simp [AOp.isE] at hE
  · obtain ⟨y, hy, rfl⟩ := map_some hc
    simp [AOp.isE] at hE
  · exfalso
    split at hc
    · split at hc
      · split at hc
        · simp only [Option.some.injEq] at hc; subst hc; simp [AOp.isE] at hE
        · simp at hc
      · simp at hc
    · simp at hc
  · split at hc
    · split at hc
      · simp only [Option.some.injEq] at hc; subst hc; simp [AOp.isE] at hE
      · obtain ⟨y, hy, rfl⟩ := map_some hc; simp [AOp.isE] at hE
      · obtain ⟨y, hy, rfl⟩ := map_some hc; simp [AOp.isE] at hE
      · split at hc
        · simp only [Option.some.injEq] at hc; subst hc; simp [AOp.isE] at hE
        · simp at hc
    · simp at hc
  · split at hc
    · split at hc
      · split at hc
        · split at hc
          · simp at hc
          · split at hc
            · simp only [Option.some.injEq] at hc; subst hc; simp [AOp.isE] at hE
            · simp at hc
        · simp at hc
      · simp at hc
    · simp at hc
  · split at hc
    · split at hc
      · split at hc
        · simp at hc
        · split at hc
          · simp only [Option.some.injEq] at hc; subst hc; simp [AOp.isE] at hE
          · simp at hc
      · simp at hc
    · split at hc
      · split at hc
        · simp at hc
        · split at hc
          · simp only [Option.some.injEq] at hc; subst hc; simp [AOp.isE] at hE
          · simp at hc
      · simp at hc
    · simp at hc
  · obtain ⟨y, hy, rfl⟩ := map_some hc
    simp [AOp.isE] at hE
  · exact call_eff hc hE hR hρ hη hn
  · simp at hc
end
end Go.Ab
set_option linter.unusedVariables false
set_option linter.unusedSimpArgs false
set_option autoImplicit false
namespace Go.Ab
def ERel (ι : Iota) (w : World) (M : Nat → Prop) (e : Env) (act : Act) : Prop := ∀ u, VRel ι w M (e.get u) (act.tmps.getD u undef)
structure From where
  ι : Iota
  s : St
  w : World
  M : Nat → Prop
  lt : ∀ b, M b → b < w.heap.size
  n0 : Nat
  N : Nat
structure Inv (F : From) (e : Env) (s : St) (act : Act) (ι : Iota) (w : World) (M : Nat → Prop) : Prop where
  rep : Rep ι s w M
  env : ERel ι w M e act
  size : F.N ≤ act.tmps.size
  dfr : act.defers = []
  go : Go F.n0 F.ι F.s F.w F.M ι s w M
section
variable {P : Program} {ι : Iota} {s : St} {w : World} {M : Nat → Prop} {e : Env} {act : Act} {F : From}
theorem Env.get_cons (d u : Nat) (v : AV) (e : Env) : Env.get ((d, v) :: e) u = if d = u then v else e.get u := by
  simp only [Env.get]
  by_cases hu : d = u
  · subst hu; simp
  · rw [if_neg hu]
    have : Nat.beq d u = false := by
      rw [Bool.eq_false_iff]
      exact fun e => hu (Nat.eq_of_beq_eq_true e)
    simp [this]
theorem ERel.orel (h : ERel ι w M e act) : ORel ι w M (AOpd.ev e) act.eval := by
  intro x y hy
  cases x <;> simp only [opd, Option.some.injEq, reduceCtorEq] at hy
  · subst hy; exact h _
  · obtain ⟨a, ha, rfl⟩ := map_some hy; exact ofV_rel ha
  · subst hy; exact .g _ _ (.fn _)
theorem ERel.mono {ι' : Iota} {w' : World} {M' : Nat → Prop} (hi : Imm w M w' M') (hx : ∀ h p, ι h = some p → ι' h = some p) (h : ERel ι w M e act) : ERel ι' w' M' e act := fun u => (h u).mono hi hx
theorem slotIn_lt {n d : Nat} (h : slotIn n (some d) = true) : d < n := by
  simp only [slotIn, blt_eq, decide_eq_true_eq] at h; exact h
theorem put_size (act : Act) (d : Option Nat) (V : Value) : (act.put d V).tmps.size = act.tmps.size := by cases d <;> simp [Act.put]
theorem put_defers (act : Act) (d : Option Nat) (V : Value) : (act.put d V).defers = act.defers := by cases d <;> rfl
theorem ERel.put {d : Option Nat} {v : AV} {V : Value} {N : Nat} (h : ERel ι w M e act) (hv : VRel ι w M v V) (hd : slotIn N d = true) (hN : N ≤ act.tmps.size) : ERel ι w M (putE e d v) (act.put d V) := by
  cases d with
  | none => exact h
  | some d =>
    have hlt := slotIn_lt hd
    intro u
    simp only [putE, Act.put, Env.get_cons]
    by_cases hu : d = u
    · subst hu
      rw [if_pos rfl]
      have : d < act.tmps.size := by omega
      simpa [Array.getD, this] using hv
    · rw [if_neg hu]
      have : (act.tmps.setIfInBounds d V).getD u undef = act.tmps.getD u undef := by
        simp only [Array.getD_eq_getD_getElem?, Array.getElem?_setIfInBounds_ne hu]
      rw [this]
      exact h u
theorem eval_func (act : Act) (f : Nat) : act.eval (.func f) = .func (.func f) #[] #[] := rfl
theorem get_next_none (hR : Rep ι s w M) : s.get s.next = none := by
  cases h : s.get s.next with
  | none => rfl
  | some c => exact absurd (hR.none_of_get h) (by omega)
theorem mk_does {n0 : Nat} {o : Sem Next} {v : AV} {c : Chunk} (hR : Rep ι s w M) (hn : n0 ≤ s.next) (h : MkN P ι w M o s.next v c) : DoesN P n0 ι s w M o v (s.app (.new c)) := by
  obtain ⟨V, cs, T, h1, h2, h3, h4⟩ := h
  have hi : ι s.next = none := hR.fresh _ (Nat.le_refl _)
  have hg := get_next_none hR
  have hR1 : Rep ι ⟨s.next + 1, s.m⟩ w M := hR.next (by omega)
  have hR2 := Rep.alloc (cs := cs) (T := T) (h := s.next) hR1 hi (by simp) hg
  have hx := ι.set_ext s.next (some (w.heap.size, 0)) hi
  have hI := Imm.alloc (w := w) (M := M) (.cells cs T)
  refine ⟨V, ι.set s.next (some (w.heap.size, 0)), _, addM M w.heap.size, .inl h1, h4 _ _ (ι.set_same _ _), ?_, ?_, hx, hI⟩
  · refine hR2.put (.inr ⟨w.heap.size, 0, ι.set_same _ _, .inr rfl, ⟨cs, T, (0, 0), heap_alloc_new w _, fun i _ => by omega, by omega, fun j hj => ?_⟩, fun j c' p hne hc' hp => ?_⟩)
    · rw [Nat.zero_add]
      exact (h3 j hj).mono hI hx
    · rw [ι.set_other _ _ _ hne] at hp
      have hM := hR.ownM ⟨j, c', p.2, hc', hp⟩
      have := hR.lt _ hM
      omega
  · have hgo := Go.alloc (n0 := n0) (h := s.next) (o := .cells cs T) (p := some (w.heap.size, 0)) (ι := ι) (s := s) (w := w) (M := M) hn hn hg hi
    refine ⟨hgo.size, hgo.tape, hgo.os, hgo.output, hgo.block, hgo.shape, hgo.back, hgo.keep, fun b hb ho => ?_, by simp only [St.app]; omega, hgo.ext⟩
    obtain ⟨j, c', base, h1, h2⟩ := ho
    simp only [St.app, St.get_cons] at h1
    split at h1
    · rename_i he
      subst he
      rw [ι.set_same] at h2
      simp only [Option.some.injEq, Prod.mk.injEq] at h2
      omega
    · rename_i he
      rw [ι.set_other _ _ _ (fun e => he e.symm)] at h2
      exact ⟨j, c', base, h1, h2⟩
theorem op_does {n0 : Nat} {o : Oper} {a : AOp} {v : AV} {eff : Eff} (hc : compOp P o.op = some a) (hR : Rep ι s w M) (hρ : ERel ι w M e act) (hn : n0 ≤ s.next) (h : opD s.get s.next (AOpd.ev e) a = .ok true v eff) :
    DoesN P n0 ι s w M (execOp act.eval o) v (s.app eff) := by
  cases hE : a.isE with
  | true => exact (op_eff hc hE hR hρ.orel (eval_func act) hn).1 v eff h
  | false =>
    cases hA : a.isA with
    | true =>
      obtain ⟨c, rfl, hm⟩ := op_make hc hA hρ.orel h
      exact mk_does hR hn hm
    | false =>
      obtain ⟨⟨V, h1, h2⟩, rfl⟩ := op_pure hc hE hA hρ.orel hR.hget h
      exact ⟨V, ι, w, M, .inl h1, h2, hR, Go.refl ι s w M hn, fun _ _ h => h, Imm.refl w M⟩
theorem op_calls {o : Oper} {a : AOp} {f : Nat} {args : List AV} (hc : compOp P o.op = some a) (hR : Rep ι s w M) (hρ : ERel ι w M e act) (h : opD s.get s.next (AOpd.ev e) a = .call f args) (hb : hasBody P f = true) :
    ∃ Vs, (execOp act.eval o).run P w = .ok (.enter f Vs) w ∧ VRels ι w M args Vs := by
  cases hE : a.isE with
  | true => exact (op_eff hc hE hR hρ.orel (eval_func act) (Nat.zero_le _)).2 f args h hb
  | false =>
    exfalso
    cases a <;> simp only [AOp.isE, reduceCtorEq] at hE <;> simp only [opD] at h
    all_goals first
      | (simp at h; done)
      | (split at h <;> first | (simp at h; done) | (split at h <;> first | (simp at h; done) | (split at h <;> simp at h; done)))
      | (simp only [sliceA] at h; split at h <;> first | (simp at h; done) | (split at h <;> first | (simp at h; done) | (split at h <;> simp at h; done)))
      | (simp only [idxA] at h; split at h <;> first | (simp at h; done) | (split at h <;> first | (simp at h; done) | (split at h <;> simp at h; done)))
      | (simp only [convA] at h; split at h <;> first | (simp at h; done) | (split at h <;> first | (simp at h; done) | (split at h <;> simp at h; done)))
      | (simp only [unA] at h; split at h <;> first | (simp at h; done) | (split at h <;> first | (simp at h; done) | (split at h <;> simp at h; done)))
theorem Inv.put {d : Option Nat} {v : AV} {V : Value} (h : Inv F e s act ι w M) (hv : VRel ι w M v V) (hd : slotIn F.N d = true) : Inv F (putE e d v) s (act.put d V) ι w M :=
  ⟨h.rep, h.env.put hv hd h.size, by rw [put_size]; exact h.size, by rw [put_defers]; exact h.dfr, h.go⟩
theorem Inv.step {ι' : Iota} {s' : St} {w' : World} {M' : Nat → Prop} (h : Inv F e s act ι w M) (hR : Rep ι' s' w' M') (hg : Go F.n0 ι s w M ι' s' w' M') (hx : ∀ h p, ι h = some p → ι' h = some p) (hi : Imm w M w' M') : Inv F e s' act ι' w' M' :=
  ⟨hR, h.env.mono hi hx, h.size, h.dfr, h.go.trans hg F.lt⟩
theorem Rep.ext_all {n0 : Nat} {ι' : Iota} {s' : St} {w' : World} {M' : Nat → Prop} (hR : Rep ι s w M) (hg : Go s.next ι s w M ι' s' w' M') : ∀ h p, ι h = some p → ι' h = some p := fun h p hp => by
  rcases Nat.lt_or_ge h s.next with hl | hl
  · rw [hg.ext h hl]; exact hp
  · rw [hR.fresh h hl] at hp; cases hp
theorem ins_sound {o : Oper} {i : AIns} {K : Env → St → Prop} {next : Act → World → Prop} {Q : Exit → Act → World → Prop} (hop : compOp P o.op = some i.op) (hdst : i.dst = o.dst) (hslot : slotIn F.N i.dst = true) (hI : Inv F e s act ι w M)
    (h : insW s s.get e i (fun v eff => putW e i.dst v fun e => appW s eff fun s => K e s) (fun f args => Tr P f args s fun v s => forceV v fun v => putW e i.dst v fun e => K e s))
    (hk : ∀ e' s' act' ι' w' M', Inv F e' s' act' ι' w' M' → K e' s' → next act' w') : o.wp P act w next Q := by
  unfold insW at h
  split at h
  · rename_i c v eff hd
    cases c with
    | false => simp at h
    | true =>
      simp only [cond_true, forceV_eq] at h
      have hK : K (putE e i.dst v) (s.app eff) := by
        cases hs : i.split with
        | false => simp only [hs, cond_false, putW_eq, appW_eq] at h; exact h
        | true =>
          simp only [hs, cond_true] at h
          cases v <;> simp only [] at h
          rename_i b
          cases b <;> simpa only [cond_true, cond_false, putW_eq, appW_eq] using h
      obtain ⟨V, ι', w', M', hrun, h1, h2, h3, h4, h5⟩ := op_does (n0 := F.n0) hop hI.rep hI.env hI.go.next hd
      have hI' := (hI.step h2 h3 h4 h5).put h1 hslot
      rw [hdst] at hI' hK
      unfold Oper.wp
      rcases hrun with hrun | ⟨hrun, rfl⟩
      · rw [hrun, Oper.upon_value]; exact hk _ _ _ _ _ _ hI' hK
      · rw [hrun, Oper.upon_skip]; exact hk _ _ _ _ _ _ hI' hK
  · rename_i f args hd
    unfold Tr at h
    obtain ⟨hb, h⟩ := h
    obtain ⟨Vs, hrun, hV⟩ := op_calls hop hI.rep hI.env hd hb
    unfold Oper.wp
    rw [hrun, Oper.upon_enter]
    refine Calls.mono (h ι w M Vs hI.rep hV) fun en w' he => ?_
    obtain ⟨V, ι', M', v, s', rfl, hK, h1, h2, h3⟩ := he
    simp only [forceV_eq, putW_eq] at hK
    have hx := Rep.ext_all (n0 := 0) hI.rep h3
    have hI' := (hI.step h2 (h3.weak hI.go.next) hx (GoImm h3 fun b hb => hI.rep.ownM hb)).put h1 hslot
    rw [hdst] at hI' hK
    exact hk _ _ _ _ _ _ hI' hK
  · exact h.elim
theorem VRel.skip {ι : Iota} {w : World} {M : Nat → Prop} : VRel ι w M (.tup []) Go.undef := .g _ _ (.tup _ #[] rfl fun j hj => absurd hj (Nat.not_lt_zero j))
theorem guard_sound {ops : List Oper} {o : Oper} {i : AIns} {k : Nat} (hi : insOf P ops k o = some i) (henv : ERel ι w M e act) {yes no : Prop} (h : guardW e i yes no) :
    (Region.wanted o (yielded ops.toArray act.tmps) = true ∧ yes) ∨ (Region.wanted o (yielded ops.toArray act.tmps) = false ∧ no) := by
  unfold insOf at hi
  split at hi
  · rename_i a ha
    split at hi
    · rename_i hg
      simp only [Option.some.injEq] at hi
      subst hi
      simp only [guardW] at h
      exact .inl ⟨by simp [Region.wanted, hg], h⟩
    · rename_i g hg
      split at hi
      · rename_i t ht
        simp only [Option.some.injEq] at hi
        subst hi
        simp only [guardW] at h
        have hv := henv t
        cases hb : e.get t <;> simp only [hb] at h
        case tup l =>
          rw [hb] at hv
          obtain ⟨cs, hV, _⟩ := hv.tup_inv
          have hy : yielded ops.toArray act.tmps g.1 = none := by
            have h1 : (ops.toArray[g.1]?).bind (·.dst) = some t := by simpa using ht
            simp only [yielded, h1, Option.bind_some]
            rw [Array.getD_eq_getD_getElem?] at hV
            cases h3 : act.tmps[t]? with
            | none => rfl
            | some x => rw [h3] at hV; simp at hV; rw [hV]
          refine .inr ⟨?_, h⟩
          obtain ⟨gi, want⟩ := g
          simp only at hy
          simp only [Region.wanted, hg, hy]
          rfl
        rename_i b
        rw [hb] at hv
        have hV := hv.bool_inv
        have hy : yielded ops.toArray act.tmps g.1 = some b := by
          have h1 : (ops.toArray[g.1]?).bind (·.dst) = some t := by simpa using ht
          have h2 : act.tmps[t]? = some (.bool b) := by
            rw [Array.getD_eq_getD_getElem?] at hV
            cases h3 : act.tmps[t]? with
            | none => rw [h3] at hV; simp [undef] at hV
            | some x => rw [h3] at hV; simp at hV; rw [hV]
          simp only [yielded, h1, Option.bind_some, h2]
        obtain ⟨gi, want⟩ := g
        simp only at hy h ht
        have hw : Region.wanted o (yielded ops.toArray act.tmps) = (b == want) := by
          simp only [Region.wanted, hg, hy]
          cases b <;> cases want <;> rfl
        rw [hw]
        cases b <;> cases want <;> simp only [cond_true, cond_false] at h
        · exact .inl ⟨rfl, h⟩
        · exact .inr ⟨rfl, h⟩
        · exact .inr ⟨rfl, h⟩
        · exact .inl ⟨rfl, h⟩
      · simp at hi
  · simp at hi
theorem insOf_op {ops : List Oper} {o : Oper} {i : AIns} {k : Nat} (hi : insOf P ops k o = some i) : compOp P o.op = some i.op ∧ i.dst = o.dst := by
  unfold insOf at hi
  split at hi
  · rename_i a ha
    split at hi
    · simp only [Option.some.injEq] at hi; subst hi; exact ⟨ha, rfl⟩
    · split at hi
      · simp only [Option.some.injEq] at hi; subst hi; exact ⟨ha, rfl⟩
      · simp at hi
  · simp at hi
theorem regW_sound {Q : Exit → Act → World → Prop} {K : Env → St → Prop} {ops : List Oper} : ∀ (l : List Oper) (k : Nat) (il : List AIns), insL P ops k l = some il → il.all (fun i => slotIn F.N i.dst) = true →
    ∀ {e s act ι w M}, Inv F e s act ι w M → regW P il e s K → (∀ e' s' act' ι' w' M', Inv F e' s' act' ι' w' M' → K e' s' → Q .normal act' w') → wpList P ops.toArray Q l act w
  | [], k, il, hl, hs, e, s, act, ι, w, M, hI, h, hk => by
    simp only [insL, Option.some.injEq] at hl
    subst hl
    exact hk _ _ _ _ _ _ hI h
  | o :: r, k, il, hl, hs, e, s, act, ι, w, M, hI, h, hk => by
    simp only [insL] at hl
    split at hl
    · rename_i i l hi hr
      simp only [Option.some.injEq] at hl
      subst hl
      simp only [List.all_cons, Bool.and_eq_true] at hs
      obtain ⟨h1, h2⟩ := insOf_op hi
      rw [regW_cons] at h
      unfold wpList
      rcases guard_sound hi hI.env h with ⟨hw, h⟩ | ⟨hw, h⟩
      · rw [if_pos hw]
        exact .inl (ins_sound h1 h2 hs.1 hI h fun e' s' act' ι' w' M' hI' hK => regW_sound r (k + 1) l hr hs.2 hI' hK hk)
      · rw [if_neg (by simp [hw])]
        rw [putW_eq] at h
        have hI' := hI.put (V := undef) (v := .tup []) VRel.skip hs.1
        rw [h2] at hI' h
        exact regW_sound r (k + 1) l hr hs.2 hI' h hk
    · simp at hl
end
end Go.Ab
set_option linter.unusedVariables false
set_option linter.unusedSimpArgs false
set_option autoImplicit false
namespace Go.Ab
def Iota.ren (ι : Iota) (ρ : Nat → Option Nat) (n : Nat) : Iota := fun h =>
  if h < n then (match ρ h with
    | some h' => ι h'
    | none => some none) else none
section
variable {ι : Iota} {s : St} {w : World} {M : Nat → Prop} {e : Env} {act : Act} {F : From} {ρ : Nat → Option Nat} {n : Nat}
theorem Iota.ren_some {h h' : Nat} (hn : h < n) (hr : ρ h = some h') : ι.ren ρ n h = ι h' := by simp [Iota.ren, hn, hr]
theorem Iota.ren_none {h : Nat} (hn : h < n) (hr : ρ h = none) : ι.ren ρ n h = some none := by simp [Iota.ren, hn, hr]
theorem Iota.ren_ge {h : Nat} (hn : n ≤ h) : ι.ren ρ n h = none := by simp [Iota.ren, Nat.not_lt.2 hn]
theorem renL_length : ∀ l : List AV, (renL ρ l).length = l.length
  | [] => rfl
  | v :: r => by simp [renL, renL_length r]
theorem renL_getD : ∀ (l : List AV) (j : Nat), j < l.length → (renL ρ l).getD j .undef = (l.getD j .undef).ren ρ
  | [], j, h => by simp at h
  | v :: r, 0, h => by simp [renL]
  | v :: r, j + 1, h => by simpa [renL] using renL_getD r j (by simpa using h)
theorem VRel.same {v : AV} {V : Value} {ι' : Iota} (h : VRel ι w M v V) (h1 : ∀ h o, v ≠ .ptr h o) (h2 : ∀ e h o m, v ≠ .sl e h o m) (h3 : ∀ l, v ≠ .agg l) (h4 : ∀ l, v ≠ .tup l) (h5 : ∀ t x, v ≠ .iface t x) (h6 : ∀ f l, v ≠ .fn f l) : VRel ι' w M v V := by
  cases h with
  | g _ _ h => exact .g _ _ h
  | ptr h o => exact absurd rfl (h1 h o)
  | sl e h o m => exact absurd rfl (h2 e h o m)
  | slv e h o => exact absurd rfl (h2 e h o 0)
  | agg l => exact absurd rfl (h3 l)
  | tup l => exact absurd rfl (h4 l)
  | iface t x => exact absurd rfl (h5 t x)
  | fn f l => exact absurd rfl (h6 f l)
mutual
theorem ren_rel : ∀ (v : AV) (V : Value), v.hok n ρ = true → VRel ι w M (v.ren ρ) V → VRel (ι.ren ρ n) w M v V
  | .ptr h o, V, hk, hr => by
    simp only [AV.hok, Bool.and_eq_true, blt_eq, decide_eq_true_eq] at hk
    obtain ⟨h1, h2⟩ := hk
    obtain ⟨h', h3⟩ := Option.isSome_iff_exists.1 h2
    simp only [AV.ren, h3] at hr
    obtain ⟨b, base, h4, rfl⟩ := hr.ptr_inv
    exact .ptr h o b base (by rw [Iota.ren_some h1 h3]; exact h4)
  | .sl e h o m, V, hk, hr => by
    simp only [AV.hok, Bool.and_eq_true, blt_eq, decide_eq_true_eq, Bool.or_eq_true] at hk
    obtain ⟨h1, h2⟩ := hk
    cases h3 : ρ h with
    | some h' =>
      simp only [AV.ren, h3] at hr
      rcases hr.sl_inv with ⟨b, base, oo, cap, T, N, h4, h5, h6, h7, h8, rfl⟩ | ⟨h4, rfl, rfl⟩
      · exact .sl e h o m b base oo cap T N (by rw [Iota.ren_some h1 h3]; exact h4) h5 h6 h7 h8
      · exact .slv e h o (by rw [Iota.ren_some h1 h3]; exact h4)
    | none =>
      simp only [AV.ren, h3] at hr
      obtain rfl := hr.nils_inv
      simp only [h3, Option.isSome_none, Bool.false_eq_true, false_or] at h2
      obtain rfl := Nat.eq_of_beq_eq_true h2
      exact .slv e h o (Iota.ren_none h1 h3)
  | .agg l, V, hk, hr => by
    simp only [AV.hok] at hk
    simp only [AV.ren] at hr
    obtain ⟨cs, rfl, h1, h2⟩ := hr.agg_inv
    rw [renL_length] at h1 h2
    exact .agg l cs h1 fun j hj => renL_rel l hk j hj _ (by rw [← renL_getD l j hj]; exact h2 j hj)
  | .tup l, V, hk, hr => by
    simp only [AV.hok] at hk
    simp only [AV.ren] at hr
    obtain ⟨cs, rfl, h1, h2⟩ := hr.tup_inv
    rw [renL_length] at h1 h2
    exact .tup l cs h1 fun j hj => renL_rel l hk j hj _ (by rw [← renL_getD l j hj]; exact h2 j hj)
  | .iface t v, V, hk, hr => by
    simp only [AV.hok] at hk
    simp only [AV.ren] at hr
    obtain ⟨V', rfl, h1⟩ := hr.iface_inv
    exact .iface t v V' (ren_rel v V' hk h1)
  | .fn f l, V, hk, hr => by
    simp only [AV.hok] at hk
    simp only [AV.ren] at hr
    obtain ⟨cs, rfl, h1, h2⟩ := hr.fn_inv
    rw [renL_length] at h1 h2
    exact .fn f l cs h1 fun j hj => renL_rel l hk j hj _ (by rw [← renL_getD l j hj]; exact h2 j hj)
  | .undef, V, hk, hr => .undef V
  | .aggI n k g, V, hk, hr => VRel.same (v := .aggI n k g) hr (by simp) (by simp) (by simp) (by simp) (by simp) (by simp)
  | .bool b, V, hk, hr => VRel.same (v := .bool b) hr (by simp) (by simp) (by simp) (by simp) (by simp) (by simp)
  | .int k m, V, hk, hr => VRel.same (v := .int k m) hr (by simp) (by simp) (by simp) (by simp) (by simp) (by simp)
  | .str x, V, hk, hr => VRel.same (v := .str x) hr (by simp) (by simp) (by simp) (by simp) (by simp) (by simp)
  | .nilp, V, hk, hr => VRel.same (v := .nilp) hr (by simp) (by simp) (by simp) (by simp) (by simp) (by simp)
  | .nils, V, hk, hr => VRel.same (v := .nils) hr (by simp) (by simp) (by simp) (by simp) (by simp) (by simp)
  | .nili, V, hk, hr => VRel.same (v := .nili) hr (by simp) (by simp) (by simp) (by simp) (by simp) (by simp)
  | .nilf, V, hk, hr => VRel.same (v := .nilf) hr (by simp) (by simp) (by simp) (by simp) (by simp) (by simp)
  | .nilm, V, hk, hr => VRel.same (v := .nilm) hr (by simp) (by simp) (by simp) (by simp) (by simp) (by simp)
  | .cptr v, V, hk, hr => VRel.same (v := .cptr v) hr (by simp) (by simp) (by simp) (by simp) (by simp) (by simp)
  | .roI k l, V, hk, hr => VRel.same (v := .roI k l) hr (by simp) (by simp) (by simp) (by simp) (by simp) (by simp)
  | .roB l, V, hk, hr => VRel.same (v := .roB l) hr (by simp) (by simp) (by simp) (by simp) (by simp) (by simp)
  | .ro e l, V, hk, hr => VRel.same (v := .ro e l) hr (by simp) (by simp) (by simp) (by simp) (by simp) (by simp)
  | .raw x, V, hk, hr => VRel.same (v := .raw x) hr (by simp) (by simp) (by simp) (by simp) (by simp) (by simp)
termination_by structural v => v
theorem renL_rel : ∀ (l : List AV), hokL n ρ l = true → ∀ j, j < l.length → ∀ V, VRel ι w M ((l.getD j .undef).ren ρ) V → VRel (ι.ren ρ n) w M (l.getD j .undef) V
  | [], hk, j, hj, V, hr => by simp at hj
  | v :: r, hk, 0, hj, V, hr => by
    simp only [hokL, Bool.and_eq_true] at hk
    exact ren_rel v V hk.1 (by simpa using hr)
  | v :: r, hk, j + 1, hj, V, hr => by
    simp only [hokL, Bool.and_eq_true] at hk
    exact renL_rel r hk.2 j (by simpa using hj) V (by simpa using hr)
termination_by structural l => l
end
theorem envSub_get : ∀ (E : Env), envSub ρ n e E → ∀ u, E.get u = .undef ∨ (e.get u = (E.get u).ren ρ ∧ (E.get u).hok n ρ = true)
  | [], _, u => .inl rfl
  | (d, v) :: r, h, u => by
    rw [Env.get_cons]
    simp only [envSub] at h
    by_cases hd : d = u
    · subst hd; rw [if_pos rfl]; exact .inr h.1
    · rw [if_neg hd]; exact envSub_get r h.2 u
theorem Chunk.ren_size (c : Chunk) : (c.ren ρ).size = c.size := by cases c <;> simp [Chunk.ren, Chunk.size, renL_length]
theorem ren_crel {c : Chunk} {b base : Nat} (hk : c.hok n ρ) (h : CRel ι w M (c.ren ρ) b base) : CRel (ι.ren ρ n) w M c b base := by
  obtain ⟨cs, T, fr, h1, h2, h3, h4⟩ := h
  rw [Chunk.ren_size] at h3 h4
  refine ⟨cs, T, fr, h1, h2, h3, fun j hj => ?_⟩
  have := h4 j hj
  cases c with
  | obj l =>
    simp only [Chunk.ren, Chunk.get, Chunk.size, Chunk.hok] at *
    rw [renL_getD l j hj] at this
    exact renL_rel l hk j hj _ this
  | fn m f =>
    simp only [Chunk.ren, Chunk.get, Chunk.size, Chunk.hok] at *
    exact ren_rel _ _ (hk j hj) this
  | rowI k l => exact this.same (by simp [Chunk.ren, Chunk.get]) (by simp [Chunk.ren, Chunk.get]) (by simp [Chunk.ren, Chunk.get]) (by simp [Chunk.ren, Chunk.get]) (by simp [Chunk.ren, Chunk.get]) (by simp [Chunk.ren, Chunk.get])
  | rowB l => exact this.same (by simp [Chunk.ren, Chunk.get]) (by simp [Chunk.ren, Chunk.get]) (by simp [Chunk.ren, Chunk.get]) (by simp [Chunk.ren, Chunk.get]) (by simp [Chunk.ren, Chunk.get]) (by simp [Chunk.ren, Chunk.get])
  | blk n k g => exact this.same (by simp [Chunk.ren, Chunk.get]) (by simp [Chunk.ren, Chunk.get]) (by simp [Chunk.ren, Chunk.get]) (by simp [Chunk.ren, Chunk.get]) (by simp [Chunk.ren, Chunk.get]) (by simp [Chunk.ren, Chunk.get])
theorem mem_get : ∀ (m : Mem) (h : Nat) (c : Chunk), m.get h = some c → (h, some c) ∈ m
  | [], h, c, hg => by simp [Mem.get] at hg
  | (k, d) :: r, h, c, hg => by
    rw [Mem.get_cons] at hg
    by_cases hk : k = h
    · subst hk; rw [if_pos rfl] at hg; subst hg; simp
    · rw [if_neg hk] at hg; exact List.mem_cons_of_mem _ (mem_get r h c hg)
theorem memSub_mem : ∀ (m : Mem), memSub ρ n s m → ∀ h c, (h, some c) ∈ m → c.hok n ρ ∧ h < n ∧ match ρ h with
      | some h' => s.get h' = some (c.ren ρ)
      | none => c.size = 0
  | [], _, h, c, hm => by simp at hm
  | (k, d) :: r, hs, h, c, hm => by
    rcases List.mem_cons.1 hm with he | hq
    · simp only [Prod.mk.injEq] at he
      obtain ⟨rfl, rfl⟩ := he
      simp only [memSub, blt_eq, decide_eq_true_eq] at hs
      exact hs.1
    · cases d with
      | none => exact memSub_mem r hs h c hq
      | some d => simp only [memSub] at hs; exact memSub_mem r hs.2 h c hq
theorem memN_iff (l : List Nat) (i : Nat) : memN l i = true ↔ i ∈ l := by
  simp only [memN, List.any_eq_true]
  constructor
  · rintro ⟨x, hx, h⟩
    have := Nat.eq_of_beq_eq_true h
    exact this ▸ hx
  · intro h
    exact ⟨i, h, by simp⟩
theorem live_mem : ∀ (m : Mem) (h : Nat) (c : Chunk) (h' : Nat), (h, some c) ∈ m → ρ h = some h' → h' ∈ liveOf ρ m
  | [], h, c, h', hm, hr => by simp at hm
  | (k, d) :: r, h, c, h', hm, hr => by
    rcases List.mem_cons.1 hm with he | hq
    · simp only [Prod.mk.injEq] at he
      obtain ⟨rfl, rfl⟩ := he
      simp [liveOf, hr]
    · have ih := live_mem r h c h' hq hr
      cases d with
      | none => exact ih
      | some d =>
        simp only [liveOf]
        split
        · exact List.mem_cons_of_mem _ ih
        · exact ih
theorem live_inj : ∀ (m : Mem), nodupN (liveOf ρ m) = true → ∀ h1 h2 c1 c2 h', (h1, some c1) ∈ m → (h2, some c2) ∈ m → ρ h1 = some h' → ρ h2 = some h' → h1 = h2
  | [], _, h1, h2, c1, c2, h', hm, _, _, _ => by simp at hm
  | (k, d) :: r, hn, h1, h2, c1, c2, h', hm1, hm2, hr1, hr2 => by
    have hr : nodupN (liveOf ρ r) = true := by
      cases d with
      | none => exact hn
      | some d =>
        simp only [liveOf] at hn
        split at hn
        · simp only [nodupN, Bool.and_eq_true] at hn; exact hn.2
        · exact hn
    rcases List.mem_cons.1 hm1 with he1 | hq1 <;> rcases List.mem_cons.1 hm2 with he2 | hq2
    · simp only [Prod.mk.injEq] at he1 he2
      rw [he1.1, he2.1]
    · simp only [Prod.mk.injEq] at he1
      obtain ⟨rfl, rfl⟩ := he1
      exfalso
      simp only [liveOf, hr1, nodupN, Bool.and_eq_true, Bool.not_eq_true'] at hn
      have := live_mem r h2 c2 h' hq2 hr2
      rw [← memN_iff, hn.1] at this
      cases this
    · simp only [Prod.mk.injEq] at he2
      obtain ⟨rfl, rfl⟩ := he2
      exfalso
      simp only [liveOf, hr2, nodupN, Bool.and_eq_true, Bool.not_eq_true'] at hn
      have := live_mem r h1 c1 h' hq1 hr1
      rw [← memN_iff, hn.1] at this
      cases this
    · exact live_inj r hr h1 h2 c1 c2 h' hq1 hq2 hr1 hr2
theorem rnm_lt {n0 : Nat} : ∀ (rn : List (Nat × Option Nat)), (rn.all fun p => Nat.ble n0 p.1) = true → ∀ h, h < n0 → rnm rn h = some h
  | [], _, h, _ => rfl
  | p :: r, hr, h, hl => by
    simp only [List.all_cons, Bool.and_eq_true] at hr
    simp only [rnm]
    have h1 := Nat.le_of_ble_eq_true hr.1
    have : Nat.beq p.1 h = false := by
      rw [Bool.eq_false_iff]
      intro h2
      have := Nat.eq_of_beq_eq_true h2
      omega
    rw [this, cond_false]
    exact rnm_lt r hr.2 h hl
theorem sub_sound {E : Env} {S : St} (hI : Inv F e s act ι w M) (h : SubW F.n0 e s E S) : ∃ ι', Inv F E S act ι' w M := by
  obtain ⟨rn, h1, h2, h3, h4, h5⟩ := h
  have hn := Nat.le_of_ble_eq_true h2
  have hmem := memSub_mem S.m h5
  have key : ∀ h c, S.get h = some c → (ι.ren (rnm rn) S.next h = some none ∧ c.size = 0) ∨ ∃ h', rnm rn h = some h' ∧ ι.ren (rnm rn) S.next h = ι h' ∧ s.get h' = some (c.ren (rnm rn)) := fun h c hg => by
    obtain ⟨k1, k2, k3⟩ := hmem h c (mem_get _ _ _ hg)
    cases hr : rnm rn h with
    | none => rw [hr] at k3; exact .inl ⟨Iota.ren_none k2 hr, k3⟩
    | some h' => rw [hr] at k3; exact .inr ⟨h', rfl, Iota.ren_some k2 hr, k3⟩
  have hown : ∀ b, Own (ι.ren (rnm rn) S.next) S b → Own ι s b := fun b ho => by
    obtain ⟨h, c, base, k1, k2⟩ := ho
    rcases key h c k1 with ⟨k3, _⟩ | ⟨h', _, k3, k4⟩
    · rw [k2] at k3; cases k3
    · rw [k2] at k3; exact ⟨h', _, base, k4, k3.symm⟩
  refine ⟨ι.ren (rnm rn) S.next, ⟨fun h hh => Iota.ren_ge hh, fun h c hg => ?_, fun h h' c c' p p' hg hg' hne hp hp' => ?_, hI.rep.lt⟩, fun u => ?_, hI.size, hI.dfr, ?_⟩
  · rcases key h c hg with k | ⟨h', _, k3, k4⟩
    · exact .inl k
    · rw [k3]
      rcases hI.rep.own h' _ k4 with ⟨k5, k6⟩ | ⟨b, base, k5, k6, k7⟩
      · exact .inl ⟨k5, by rw [Chunk.ren_size] at k6; exact k6⟩
      · exact .inr ⟨b, base, k5, k6, ren_crel (hmem h c (mem_get _ _ _ hg)).1 k7⟩
  · rcases key h c hg with ⟨k3, _⟩ | ⟨h1', r1, k3, k4⟩
    · rw [hp] at k3; cases k3
    · rcases key h' c' hg' with ⟨k5, _⟩ | ⟨h2', r2, k5, k6⟩
      · rw [hp'] at k5; cases k5
      · rw [hp] at k3
        rw [hp'] at k5
        refine hI.rep.inj h1' h2' _ _ p p' k4 k6 (fun he => hne ?_) k3.symm k5.symm
        subst he
        exact live_inj S.m h3 h h' c c' h1' (mem_get _ _ _ hg) (mem_get _ _ _ hg') r1 r2
  · rcases envSub_get E h4 u with hu | ⟨hu1, hu2⟩
    · rw [hu]; exact .undef _
    · have := hI.env u
      rw [hu1] at this
      exact ren_rel _ _ hu2 this
  · have hg := hI.go
    exact ⟨hg.size, hg.tape, hg.os, hg.output, hg.block, hg.shape, hg.back, hg.keep, fun b hb ho => hg.own b hb (hown b ho), hn, fun h hl => by
      rw [Iota.ren_some (by omega) (rnm_lt rn h1 h hl)]
      exact hg.ext h hl⟩
end
end Go.Ab
set_option linter.unusedVariables false
set_option linter.unusedSimpArgs false
set_option autoImplicit false
namespace Go.Ab
def Ex.out : Ex → Exit
  | .normal => .normal
  | .exit id => .exit id
  | .ret => .ret
def DrawOk (P : Program) : Prop :=
  ∀ (F : From) (id : Nat) (ops : Array Oper) (p : List AStep), compReg P ops.toList true = some (.draw p) → dstOk F.N (.draw p) = true →
    ∀ {e s act ι w M} (K : Env → St → Prop) (Q : Exit → Act → World → Prop), Inv F e s act ι w M → drawW P p e s [] K →
      (∀ e' s' act' ι' w' M', Inv F e' s' act' ι' w' M' → K e' s' → Q .normal act' w') → (Code.region id ops true).wp P Q act w
theorem wp_loop_ghost {P : Program} {c : Code} {Q : Exit → Act → World → Prop} {a : Act} {w : World} {α : Type} (I : α → Act → World → Prop) (μ : α → Nat) (x0 : α) (h₀ : I x0 a w)
    (round : ∀ x a w, I x a w → c.wp P (Exit.then (fun a' w' => ∃ x', I x' a' w' ∧ μ x' < μ x) Q) a w) : (Code.loop c).wp P Q a w := by
  intro b k cs
  have key : ∀ n x a w, μ x = n → I x a w →
      ∃ e a' w', Q e a' w' ∧ Arrives P (lone (b.at a (.code c :: .inLoop c :: k)) cs w) b k cs e a' w' := by
    intro n
    induction n using Nat.strongRecOn with
    | _ n ih =>
      intro x a w hn hI
      obtain ⟨e, a₁, w₁, hq, harr⟩ := round x a w hI b (.inLoop c :: k) cs
      cases e with
      | normal =>
        obtain ⟨x', hI₁, hlt⟩ := hq
        obtain ⟨e₂, a₂, w₂, hq₂, harr₂⟩ := ih (μ x') (hn ▸ hlt) x' a₁ w₁ rfl hI₁
        exact ⟨e₂, a₂, w₂, hq₂, .of_steps (Steps.trans harr (.one step_inLoop)) harr₂⟩
      | exit id => exact ⟨_, a₁, w₁, hq, .pass (x := .inLoop c) rfl (fun _ _ => .inl (by simp)) harr⟩
      | goto l => exact ⟨_, a₁, w₁, hq, .pass (x := .inLoop c) rfl (fun _ _ => .inl (by simp)) harr⟩
      | ret => exact ⟨_, a₁, w₁, hq, .pass (x := .inLoop c) rfl (fun _ _ => .inl (by simp)) harr⟩
      | panic ch => exact ⟨_, a₁, w₁, hq, .pass (x := .inLoop c) rfl (fun _ _ => .inl (by simp)) harr⟩
      | outgrown => exact ⟨_, a₁, w₁, hq, .pass (x := .inLoop c) rfl (fun _ _ => .inl (by simp)) harr⟩
  obtain ⟨e, a', w', hq, harr⟩ := key _ x0 a w rfl h₀
  exact ⟨e, a', w', hq, .of_steps (.one step_loop) harr⟩
section
variable {P : Program} {F : From}
theorem wpA_seq (n0 : Nat) (a b : ACode) (e : Env) (s : St) (K : Ex → Env → St → Prop) : wpA P n0 (.seq a b) e s K = wpA P n0 a e s fun x e s => match x with
      | .normal => wpA P n0 b e s K
      | .exit j => K (.exit j) e s
      | .ret => K .ret e s := rfl
theorem wpA_cond (n0 : Nat) (c : AOpd) (a b : ACode) (e : Env) (s : St) (K : Ex → Env → St → Prop) : wpA P n0 (.cond c a b) e s K = match c.ev e with
      | .bool t => bif t then wpA P n0 a e s K else wpA P n0 b e s K
      | _ => False := rfl
theorem wpA_block (n0 id : Nat) (a : ACode) (e : Env) (s : St) (K : Ex → Env → St → Prop) : wpA P n0 (.block id a) e s K = wpA P n0 a e s fun x e s => match x with
      | .normal => K .normal e s
      | .exit j => bif Nat.beq j id then K .normal e s else K (.exit j) e s
      | .ret => K .ret e s := rfl
theorem wpA_loop (n0 : Nat) (a : ACode) (e : Env) (s : St) (K : Ex → Env → St → Prop) : wpA P n0 (.loop a) e s K = LoopW n0 (wpA P n0 a) e s K := rfl
theorem wpA_sound (hD : DrawOk P) : ∀ (c : Code) (a : ACode), comp P c = some a → dstOk F.N a = true →
    ∀ {e s act ι w M} (K : Ex → Env → St → Prop) (Q : Exit → Act → World → Prop), Inv F e s act ι w M → wpA P F.n0 a e s K →
      (∀ x e' s' act' ι' w' M', Inv F e' s' act' ι' w' M' → K x e' s' → Q x.out act' w') → c.wp P Q act w := by
  intro c
  induction c with
  | skip =>
    intro a hc hd e s act ι w M K Q hI h hk
    simp only [comp, Option.some.injEq] at hc
    subst hc
    exact wp_skip (hk .normal _ _ _ _ _ _ hI h)
  | region id ops draw =>
    intro a hc hd e s act ι w M K Q hI h hk
    simp only [comp] at hc
    have hc' := hc
    unfold compReg at hc
    split at hc
    · rename_i l hl
      cases draw with
      | false =>
        simp only [cond_false, Option.some.injEq] at hc
        subst hc
        simp only [dstOk] at hd
        refine wp_region_list ?_
        have := regW_sound (Q := Q) (K := fun e s => K .normal e s) ops.toList 0 l hl hd hI h fun e' s' act' ι' w' M' hI' hK => hk .normal _ _ _ _ _ _ hI' hK
        simpa using this
      | true =>
        simp only [cond_true] at hc
        cases hp : planOk P ops.toList l (ancs ops.toList []) (plan (ancs ops.toList []) l l.length [] 0) with
        | true =>
          simp only [hp, cond_true, Option.some.injEq] at hc
          subst hc
          exact hD F id ops _ hc' hd (fun e s => K .normal e s) Q hI h fun e' s' act' ι' w' M' hI' hK => hk .normal _ _ _ _ _ _ hI' hK
        | false => simp [hp] at hc
    · simp at hc
  | seq x y ihx ihy =>
    intro a hc hd e s act ι w M K Q hI h hk
    simp only [comp] at hc
    split at hc
    · rename_i a' b' ha hb
      simp only [Option.some.injEq] at hc
      subst hc
      simp only [dstOk, Bool.and_eq_true] at hd
      rw [wpA_seq] at h
      refine wp_seq (ihx a' ha hd.1 _ _ hI h fun ex e' s' act' ι' w' M' hI' hK => ?_)
      cases ex with
      | normal => exact ihy b' hb hd.2 _ _ hI' hK hk
      | exit j => exact hk _ _ _ _ _ _ _ hI' hK
      | ret => exact hk _ _ _ _ _ _ _ hI' hK
    · simp at hc
  | cond cx x y ihx ihy =>
    intro a hc hd e s act ι w M K Q hI h hk
    simp only [comp] at hc
    split at hc
    · rename_i c' a' b' hcc ha hb
      simp only [Option.some.injEq] at hc
      subst hc
      simp only [dstOk, Bool.and_eq_true] at hd
      rw [wpA_cond] at h
      have hv := hI.env.orel _ _ hcc
      cases hb' : c'.ev e <;> simp only [hb'] at h
      rename_i t
      rw [hb'] at hv
      refine wp_cond hv.bool_inv ?_
      cases t
      · exact ihy b' hb hd.2 _ _ hI h hk
      · exact ihx a' ha hd.1 _ _ hI h hk
    · simp at hc
  | block id x ih =>
    intro a hc hd e s act ι w M K Q hI h hk
    simp only [comp] at hc
    obtain ⟨a', ha, rfl⟩ := map_some hc
    rw [wpA_block] at h
    refine wp_block (ih a' ha hd _ _ hI h fun ex e' s' act' ι' w' M' hI' hK => ?_)
    cases ex with
    | normal => exact hk .normal _ _ _ _ _ _ hI' hK
    | exit j =>
      simp only [Ex.out, Exit.inBlock]
      by_cases hj : j = id
      · subst hj
        have hb : Nat.beq j j = true := by simp
        simp only [hb, cond_true] at hK
        rw [if_pos rfl]
        exact hk .normal _ _ _ _ _ _ hI' hK
      · have hb : Nat.beq j id = false := by
          rw [Bool.eq_false_iff]
          exact fun e => hj (Nat.eq_of_beq_eq_true e)
        simp only [hb, cond_false] at hK
        rw [if_neg hj]
        exact hk (.exit j) _ _ _ _ _ _ hI' hK
    | ret => exact hk .ret _ _ _ _ _ _ hI' hK
  | loop x ih =>
    intro a hc hd e s act ι w M K Q hI h hk
    simp only [comp] at hc
    obtain ⟨a', ha, rfl⟩ := map_some hc
    rw [wpA_loop] at h
    unfold LoopW at h
    obtain ⟨α, E, S, μ, x0, h0, hr⟩ := h
    refine wp_loop_ghost (fun x act w => ∃ ι M, Inv F (E x) (S x) act ι w M) μ x0 ?_ fun x act w hx => ?_
    · obtain ⟨ι', hI'⟩ := sub_sound hI h0
      exact ⟨ι', M, hI'⟩
    · obtain ⟨ι1, M1, hI1⟩ := hx
      refine ih a' ha hd _ _ hI1 (hr x) fun ex e' s' act' ι' w' M' hI' hK => ?_
      cases ex with
      | normal =>
        obtain ⟨x', hs, hm⟩ := hK
        obtain ⟨ι2, hI2⟩ := sub_sound hI' hs
        exact ⟨x', ⟨ι2, M', hI2⟩, hm⟩
      | exit j => exact hk _ _ _ _ _ _ _ hI' hK
      | ret => exact hk _ _ _ _ _ _ _ hI' hK
  | exit id =>
    intro a hc hd e s act ι w M K Q hI h hk
    simp only [comp, Option.some.injEq] at hc
    subst hc
    exact wp_exit (hk (.exit id) _ _ _ _ _ _ hI h)
  | ret =>
    intro a hc hd e s act ι w M K Q hI h hk
    simp only [comp, Option.some.injEq] at hc
    subst hc
    exact wp_ret (hk .ret _ _ _ _ _ _ hI h)
  | rangeFunc f ps as body _ _ => intro a hc; simp [comp] at hc
  | scope body _ => intro a hc; simp [comp] at hc
  | label l => intro a hc; simp [comp] at hc
  | goto l => intro a hc; simp [comp] at hc
  | refuse why => intro a hc; simp [comp] at hc
theorem argsE_get : ∀ (l : List AV) (i u : Nat), (argsE i l).get u = if i ≤ u then l.getD (u - i) .undef else .undef
  | [], i, u => by simp [argsE, Env.get]
  | v :: r, i, u => by
    rw [argsE, Env.get_cons, argsE_get r (i + 1) u]
    by_cases h1 : i = u
    · subst h1; simp
    · rw [if_neg h1]
      by_cases h2 : i ≤ u
      · rw [if_pos h2, if_pos (by omega), show u - i = (u - (i + 1)) + 1 by omega]
        simp [List.getD_eq_getElem?_getD]
      · rw [if_neg h2, if_neg (by omega)]
theorem args_erel {ι : Iota} {w : World} {M : Nat → Prop} {args : List AV} {Vs : Array Value} {N : Nat} (h : VRels ι w M args Vs) : ERel ι w M (argsE 0 args) { tmps := Vs ++ Array.replicate (N - Vs.size) undef, defers := [] } := by
  intro u
  rw [argsE_get, if_pos (Nat.zero_le _), Nat.sub_zero]
  by_cases hu : u < args.length
  · have h1 : u < Vs.size := by rw [h.1]; exact hu
    have := h.2 u hu
    simpa [Array.getD_eq_getD_getElem?, Array.getElem?_append, h1] using this
  · rw [show args.getD u .undef = .undef by simp [List.getD_eq_getElem?_getD, List.getElem?_eq_none (Nat.le_of_not_lt hu)]]
    exact .undef _
theorem resW_cons (e : Env) (s : St) (r : ARes) (l : List ARes) (K : List AV → Prop) : resW e s (r :: l) K = match r with
      | .t n => forceV (e.get n) fun v => resW e s l fun l => K (v :: l)
      | .cell n agg sz => match e.get n with
        | .ptr h off => match s.get h with
          | some c => bif (c.ld agg off sz).1 then forceV (c.ld agg off sz).2 fun v => resW e s l fun l => K (v :: l) else False
          | none => False
        | _ => False := rfl
def rv (tmps : Array Value) : ResultVar → Sem Value
  | .tmp t => pure (tmps.getD t undef)
  | .cell a t => do loadVar t (← asAddr (tmps.getD a undef))
theorem results_eq (fn : Func) (tmps : Array Value) : results fn tmps = (do let vs ← fn.results.mapM (rv tmps); pure (if h : vs.size = 1 then vs[0] else .tuple vs)) := by
  unfold results
  have : ∀ x, (match x with
    | .tmp t => pure (tmps.getD t undef)
    | .cell a t => (do loadVar t (← asAddr (tmps.getD a undef)) : Sem Value)) = rv tmps x := fun x => by cases x <;> rfl
  rfl
theorem res_sound {ι : Iota} {s : St} {w : World} {M : Nat → Prop} {e : Env} {act : Act} (hI : Inv F e s act ι w M) : ∀ (rs : List ResultVar) (ars : List ARes), compRes P rs = some ars → ∀ (K : List AV → Prop), resW e s ars K →
    ∃ (l : List AV) (vs : List Value), (rs.mapM (rv act.tmps)).run P w = .ok vs w ∧ VRels ι w M l vs.toArray ∧ K l
  | [], ars, hc, K, h => by
    simp only [compRes, Option.some.injEq] at hc
    subst hc
    exact ⟨[], [], by simp, ⟨rfl, fun j hj => by simp at hj⟩, h⟩
  | .tmp t :: r, ars, hc, K, h => by
    simp only [compRes] at hc
    obtain ⟨l, hl, rfl⟩ := map_some hc
    rw [resW_cons] at h
    simp only [forceV_eq] at h
    obtain ⟨l', vs, h1, h2, h3⟩ := res_sound hI r l hl _ h
    refine ⟨e.get t :: l', act.tmps.getD t undef :: vs, ?_, ?_, h3⟩
    · rw [List.mapM_cons]
      simp only [rv, Sem.run_bind, Sem.run_pure, Result.andThen_ok]
      rw [h1]
      simp
    · obtain ⟨k1, k2⟩ := h2
      refine ⟨by simpa using k1, fun j hj => ?_⟩
      cases j with
      | zero => simpa using hI.env t
      | succ j => simpa using k2 j (by simpa using hj)
  | .cell t ty :: r, ars, hc, K, h => by
    simp only [compRes] at hc
    split at hc
    · rename_i ag n l ha hz hl
      split at hc
      · rename_i hk
        simp only [Option.some.injEq] at hc
        subst hc
        have hk' : ag = true ∨ n = 1 := by simpa using hk
        rw [resW_cons] at h
        have hv := hI.env t
        cases hp : e.get t <;> simp only [hp] at h
        rename_i hh off
        rw [hp] at hv
        cases hg : s.get hh with
        | none => simp [hg] at h
        | some c =>
          simp only [hg] at h
          cases hld : (c.ld ag off n).1 with
          | false => simp [hld] at h
          | true =>
            simp only [hld, cond_true, forceV_eq] at h
            obtain ⟨l', vs, h1, h2, h3⟩ := res_sound hI r l hl _ h
            obtain ⟨V, h4, h5⟩ := load_ptr (P := P) (t := ty) (v := (c.ld ag off n).2) hv hI.rep.hget hg ha hz hk' (by rw [← hld])
            obtain ⟨b, base, _, hX⟩ := hv.ptr_inv
            refine ⟨(c.ld ag off n).2 :: l', V :: vs, ?_, ?_, h3⟩
            · rw [List.mapM_cons]
              rw [hX] at h4
              simp only [Instr.loadAt, Instr.sureAddr, Sem.run_bind, Sem.run_pure, Result.andThen_ok] at h4
              simp only [rv, hX, asAddr, Sem.run_bind, Sem.run_pure, Result.andThen_ok, h4]
              rw [h1]
              simp
            · obtain ⟨k1, k2⟩ := h2
              refine ⟨by simpa using k1, fun j hj => ?_⟩
              cases j with
              | zero => simpa using h5
              | succ j => simpa using k2 j (by simpa using hj)
      · simp at hc
    · simp at hc
theorem ret_rel {ι : Iota} {w : World} {M : Nat → Prop} {l : List AV} {vs : List Value} {K : AV → St → Prop} {s : St} (h : VRels ι w M l vs.toArray) (hK : retW K s l) :
    ∃ v, VRel ι w M v (if hh : vs.toArray.size = 1 then vs.toArray[0] else .tuple vs.toArray) ∧ K v s := by
  obtain ⟨h1, h2⟩ := h
  match l, hK with
  | [v], hK =>
    refine ⟨v, ?_, hK⟩
    have hs : vs.toArray.size = 1 := by simpa using h1
    rw [dif_pos hs]
    have := h2 0 (by simp)
    match vs, hs with
    | [V], _ => simpa using this
  | [], hK =>
    refine ⟨.tup [], ?_, hK⟩
    rw [dif_neg (by rw [h1]; simp)]
    exact .tup _ _ h1 h2
  | a :: b :: r, hK =>
    refine ⟨.tup (a :: b :: r), ?_, hK⟩
    rw [dif_neg (by rw [h1]; simp)]
    exact .tup _ _ h1 h2
theorem fn_sound (hD : DrawOk P) {f : Nat} {fn : Func} {a : ACode} {rs : List ARes} {args : List AV} {s : St} {K : AV → St → Prop} (hf : P.funcs[f]? = some fn) (hb : hasBody P f = true) (hc : compF P fn = some (a, rs)) (h : fnW P a rs args s K) : Tr P f args s K := by
  unfold compF at hc
  split at hc
  · rename_i c hbody
    split at hc
    · rename_i a' rs' ha hrs
      split at hc
      · rename_i hd
        simp only [Option.some.injEq, Prod.mk.injEq] at hc
        obtain ⟨rfl, rfl⟩ := hc
        unfold Tr
        refine ⟨hb, fun ι w M Vs hR hV => calls_of_wp hf hbody ?_⟩
        let F : From := ⟨ι, s, w, M, hR.lt, s.next, fn.ntmps⟩
        have hI : Inv F (argsE 0 args) s { tmps := Vs ++ Array.replicate (fn.ntmps - Vs.size) undef, defers := [] } ι w M :=
          ⟨hR, args_erel hV, by simp [F]; omega, rfl, Go.refl ι s w M (Nat.le_refl _)⟩
        refine wpA_sound (F := F) hD c a' ha hd _ _ hI h fun x e' s' act' ι' w' M' hI' hK => ?_
        have fin : resW e' s' rs' (retW K s') → act'.defers = [] ∧ ∃ v, (results fn act'.tmps).run P w' = .ok v w' ∧ ∃ V ι' M' v' s', Ending.returned v = .returned V ∧ K v' s' ∧ VRel ι' w' M' v' V ∧ Rep ι' s' w' M' ∧ Go s.next ι s w M ι' s' w' M' := by
          intro hres
          refine ⟨hI'.dfr, ?_⟩
          obtain ⟨l, vs, h1, h2, h3⟩ := res_sound (P := P) hI' _ _ hrs _ hres
          obtain ⟨v, h4, h5⟩ := ret_rel h2 h3
          refine ⟨_, ?_, _, ι', M', v, s', rfl, h5, h4, hI'.rep, hI'.go⟩
          rw [results_eq, Array.mapM_eq_mapM_toList]
          simp only [Sem.run_bind, map_eq_pure_bind]
          rw [h1]
          simp only [Result.andThen_ok, Sem.run_pure]
        cases x with
        | normal => exact fin hK
        | exit j => exact hK.elim
        | ret => exact fin hK
      · simp at hc
    · simp at hc
  · simp at hc
end
end Go.Ab
