/- The engine's soundness: what a store, an append does to a state of memory. -/
import Derived.Test.YtomodeliimnddaaAbMem
set_option linter.unusedVariables false
set_option linter.unusedSimpArgs false
set_option autoImplicit false
namespace Go.Ab

section
variable {P : Program} {ι : Iota} {s : St} {w : World} {M : Nat → Prop}

theorem Rep.hget (hR : Rep ι s w M) : HGet ι w M s.get := fun h c p hg hi => by
  rcases hR.own h c hg with ⟨h1, h2⟩ | ⟨b, base, h1, h2, h3⟩
  · rw [hi] at h1; cases h1; exact .inl ⟨rfl, h2⟩
  · rw [hi] at h1; cases h1; exact .inr ⟨b, base, rfl, h3⟩

theorem flat_one {v : AV} (h : v.flat.all AV.one = true) : v.one = true ∨ v.isAgg = true := by
  cases v <;> first | exact .inr rfl | exact .inl (by simpa [AV.flat] using h)

theorem store_sound {n0 t sz h off : Nat} {x y : AV} {X Y : Value} {c c' : Chunk} (hR : Rep ι s w M) (hn : n0 ≤ s.next) (hX : VRel ι w M (.ptr h off) X) (hY : VRel ι w M y Y) (hg : s.get h = some c) (hz : sizeP P t = some sz)
    (h1 : y.flat.all AV.one = true) (h2 : y.flat.length = sz) (h3 : off + sz ≤ c.size) (hp : c.put off y.flat = some c') :
    ∃ w', (Instr.storeAt t X Y).run P w = .ok () w' ∧ Rep ι (s.app (.set h c')) w' M ∧ Go n0 ι s w M ι (s.app (.set h c')) w' M := by
  obtain ⟨b, base, hi, rfl⟩ := hX.ptr_inv
  rcases hR.hget h c _ hg hi with ⟨h4, _⟩ | ⟨b', base', h4, cs, T, fr, k1, k2, k3, k4⟩
  · cases h4
  simp only [Option.some.injEq, Prod.mk.injEq] at h4
  obtain ⟨rfl, rfl⟩ := h4
  obtain ⟨hs, hcs⟩ := hY.cells (flat_one h1)
  have hone : ∀ u ∈ Y.cells.toList, u.oneCell' = true := by
    intro u hu
    obtain ⟨j, hj, rfl⟩ := List.mem_iff_getElem.1 hu
    have hj' : j < y.flat.length := by simp at hj; omega
    have hv := hcs j hj'
    have hy1 : (y.flat.getD j .undef).one = true := by
      have := (List.all_eq_true.1 h1) (y.flat[j]) (List.getElem_mem hj')
      simpa [List.getD_eq_getElem?_getD, hj'] using this
    have := (hv.one hy1).1
    have hj2 : j < Y.cells.size := by simpa using hj
    simpa [Array.getD, hj2] using this
  have hrun := storeVar_run (P := P) (t := t) (V := Y) (b := b) (o := base + off) hz k1 k2 (by omega) (by omega) hone
  obtain ⟨e1, e2, e3, e4⟩ := setCells_same Y.cells.toList b (base + off) w
  have hsh := fun k => setCells_shape Y.cells.toList b (base + off) k w cs T fr k1
  have hoth := fun k hk => setCells_other Y.cells.toList b (base + off) k w hk
  refine ⟨_, hrun, ?_, Go.set hR hn hg hi e1 hoth hsh e2 e3 e4⟩
  have hMb : M b := hR.ownM ⟨h, c, base, hg, hi⟩
  have hI := Imm.set (w := w) hMb e1 hoth hsh
  obtain ⟨p1, p2⟩ := put_spec hp (by omega)
  refine Rep.set hR hg hi e1 hoth hsh ⟨_, T, fr, setCells_heap _ _ _ _ _ _ _ k1, fun i hi' => k2 i (by rwa [putA_size] at hi'), by rw [putA_size]; omega, fun j hj => ?_⟩
  rw [p1] at hj
  rw [p2 j hj, putA_get _ _ _ _ (by simp; omega)]
  simp only [Array.length_toList]
  by_cases hb : off ≤ j ∧ j < off + y.flat.length
  · rw [if_pos hb, if_pos (by omega), show base + j - (base + off) = j - off by omega]
    have := (hcs (j - off) (by omega)).mono hI (fun _ _ h => h)
    simpa [List.getD_eq_getElem?_getD, Array.getD_eq_getD_getElem?] using this
  · rw [if_neg hb, if_neg (by omega)]
    exact (k4 j hj).mono hI (fun _ _ h => h)

theorem Imm.undrew : Imm w.drew M w M := ⟨Nat.le_refl _, fun b hb hm => ⟨hm, rfl⟩, fun b hb => rfl⟩
/-! ### append -/
/-- a row's cells, as an append reads them -/
def Src (ι : Iota) (w : World) (M : Nat → Prop) (es : Nat) (r : Chunk) (n : Nat) (V : Value) : Prop :=
  r.size = n * es ∧ ((n = 0 ∧ ∃ A c, V = .slice A 0 c) ∨ ∃ (a : Addr) (c : Nat) (g : Nat → Value), V = .slice (some a) n c ∧ a.spot = none ∧
    (∀ j, j < n * es → w.cell? ⟨a.block, a.off + j, none⟩ = some (g j)) ∧ ∀ j, j < n * es → VRel ι w M (r.get j) (g j) ∧ (g j).oneCell' = true)

theorem rowFrom_src {es n : Nat} {d : AV} {D : Value} {r : Chunk} {get : Nat → Option Chunk} (hD : VRel ι w M d D) (hG : HGet ι w M get) (h : rowFrom d es get = some (true, r)) (hl : lenA d = some n) : Src ι w M es r n D := by
  by_cases hraw : ∃ v, d = .raw v
  · obtain ⟨v, rfl⟩ := hraw
    obtain ⟨a, c, rfl, rfl⟩ := lenA_raw hl
    obtain rfl := hD.raw_inv
    simp only [rowFrom, Option.some.injEq, Prod.mk.injEq, true_and] at h
    subst h
    exact ⟨by simp [Chunk.size], .inl ⟨rfl, _, _, rfl⟩⟩
  cases d <;> first | (exfalso; exact hraw ⟨_, rfl⟩) | skip
  all_goals simp only [rowFrom, reduceCtorEq] at h
  all_goals simp only [lenA, Option.some.injEq, reduceCtorEq] at hl
  all_goals subst hl
  case nils =>
    simp only [Option.some.injEq, Prod.mk.injEq, true_and] at h
    subst h
    obtain rfl := hD.nils_inv
    exact ⟨by simp [Chunk.size], .inl ⟨rfl, _, _, rfl⟩⟩
  case roI k l =>
    simp only [Option.some.injEq, Prod.mk.injEq] at h
    obtain ⟨h1, rfl⟩ := h
    obtain rfl : es = 1 := by simpa using h1
    refine ⟨by simp [Chunk.size], ?_⟩
    rcases hD.rov_inv rfl with ⟨hn, rfl⟩ | ⟨a, cap, g, rfl, hs, hM, hb, hn, he, hc, hg⟩
    · exact .inl ⟨hn, _, _, rfl⟩
    · exact .inr ⟨a, cap, g, rfl, hs, hc, fun j hj => ⟨.g _ _ (hg j hj), ((VRel.g (ι := ι) _ _ (hg j hj)).one rfl).1⟩⟩
  case roB l =>
    simp only [Option.some.injEq, Prod.mk.injEq] at h
    obtain ⟨h1, rfl⟩ := h
    obtain rfl : es = 1 := by simpa using h1
    refine ⟨by simp [Chunk.size], ?_⟩
    rcases hD.rov_inv rfl with ⟨hn, rfl⟩ | ⟨a, cap, g, rfl, hs, hM, hb, hn, he, hc, hg⟩
    · exact .inl ⟨hn, _, _, rfl⟩
    · exact .inr ⟨a, cap, g, rfl, hs, hc, fun j hj => ⟨.g _ _ (hg j hj), ((VRel.g (ι := ι) _ _ (hg j hj)).one rfl).1⟩⟩
  case sl e hh o m =>
    have key : ∀ (c : Chunk) (off : Nat), get hh = some c → e = es → o + m * es ≤ c.size → r.size = m * es → (∀ j, j < m * es → r.get j = c.get (o + j) ∧ (r.get j).one = true) → Src ι w M es r m D := by
      intro c off hg hee hle hsz hcell
      subst hee
      refine ⟨hsz, ?_⟩
      rcases hD.sl_inv with ⟨b, base, oo, cap, T, N, hi', ho, hl, hs, hn, rfl⟩ | ⟨hv, rfl, rfl⟩
      · rcases Nat.eq_zero_or_pos m with h0 | h0
        · subst h0; exact .inl ⟨rfl, _, _, rfl⟩
        · rcases hG hh _ _ hg hi' with ⟨h5, _⟩ | ⟨b', base', h5, hC⟩
          · cases h5
          · simp only [Option.some.injEq, Prod.mk.injEq] at h5
            obtain ⟨rfl, rfl⟩ := h5
            have ho' : oo = base + o := by
              rcases ho with h | h
              · exact h
              · omega
            subst ho'
            have hcc : ∀ j, j < m * e → ∃ V, w.cell? ⟨b, base + o + j, none⟩ = some V ∧ VRel ι w M (c.get (o + j)) V := fun j hj => by
              have := hC.cell (j := o + j) (by omega)
              rwa [← Nat.add_assoc] at this
            let g : Nat → Value := fun j => if hj : j < m * e then (hcc j hj).choose else default
            refine .inr ⟨_, cap, g, rfl, rfl, fun j hj => ?_, fun j hj => ?_⟩
            · simp only [g, hj, dif_pos]; exact (hcc j hj).choose_spec.1
            · have : VRel ι w M (r.get j) (g j) := by
                rw [(hcell j hj).1]
                simp only [g, hj, dif_pos]
                exact (hcc j hj).choose_spec.2
              exact ⟨this, (this.one (hcell j hj).2).1⟩
      · exact .inl ⟨rfl, _, _, rfl⟩
    cases hg : get hh with
    | none => simp [hg] at h
    | some c =>
      cases c with
      | rowI k l =>
        simp only [hg, Option.some.injEq, Prod.mk.injEq, Bool.and_eq_true, decide_eq_true_eq] at h
        obtain ⟨⟨⟨h1, h2⟩, h3⟩, rfl⟩ := h
        obtain rfl : es = 1 := by simpa using h2
        exact key _ o hg (by simpa using h1) (by simp only [Chunk.size]; omega) (by simp [Chunk.size]; omega) (fun j hj => ⟨by simp only [Chunk.get]; rw [getD_drop_take _ _ _ _ _ (by omega)], rfl⟩)
      | rowB l =>
        simp only [hg, Option.some.injEq, Prod.mk.injEq, Bool.and_eq_true, decide_eq_true_eq] at h
        obtain ⟨⟨⟨h1, h2⟩, h3⟩, rfl⟩ := h
        obtain rfl : es = 1 := by simpa using h2
        exact key _ o hg (by simpa using h1) (by simp only [Chunk.size]; omega) (by simp [Chunk.size]; omega) (fun j hj => ⟨by simp only [Chunk.get]; rw [getD_drop_take _ _ _ _ _ (by omega)], rfl⟩)
      | obj l =>
        simp only [hg, Option.some.injEq, Prod.mk.injEq, Bool.and_eq_true, decide_eq_true_eq] at h
        obtain ⟨⟨⟨h1, h3⟩, h4⟩, rfl⟩ := h
        refine key _ o hg (by simpa using h1) h3 (by simp [Chunk.size]; omega) (fun j hj => ⟨by simp only [Chunk.get]; rw [getD_drop_take _ _ _ _ _ hj], ?_⟩)
        have hlen : j < ((l.drop o).take (m * es)).length := by simp; omega
        have := (List.all_eq_true.1 h4) _ (List.getElem_mem hlen)
        simp only [Chunk.get]
        rwa [show ((l.drop o).take (m * es)).getD j .undef = ((l.drop o).take (m * es))[j] by rw [List.getD_eq_getElem?_getD, List.getElem?_eq_getElem hlen]; rfl]
      | fn n f => simp [hg] at h

theorem getD_append {α : Type} (l m : List α) (j : Nat) (d : α) : (l ++ m).getD j d = if j < l.length then l.getD j d else m.getD (j - l.length) d := by
  by_cases h : j < l.length
  · simp [List.getD_eq_getElem?_getD, List.getElem?_append, h]
  · simp [List.getD_eq_getElem?_getD, List.getElem?_append, h]
theorem cat_spec {a b c : Chunk} (h : a.cat b = some c) : c.size = a.size + b.size ∧ ∀ j, j < c.size → c.get j = if j < a.size then a.get j else b.get (j - a.size) := by
  unfold Chunk.cat at h
  split at h
  · rename_i k l k' m
    split at h
    · rename_i hk
      subst hk
      simp only [Option.some.injEq] at h
      subst h
      refine ⟨by simp [Chunk.size], fun j hj => ?_⟩
      simp only [Chunk.get, Chunk.size, getD_append]
      by_cases hl : j < l.length <;> simp [hl]
    · simp at h
  · rename_i l m
    simp only [Option.some.injEq] at h
    subst h
    refine ⟨by simp [Chunk.size], fun j hj => ?_⟩
    simp only [Chunk.get, Chunk.size, getD_append]
    by_cases hl : j < l.length <;> simp [hl]
  · rename_i l m
    simp only [Option.some.injEq] at h
    subst h
    refine ⟨by simp [Chunk.size], fun j hj => ?_⟩
    simp only [Chunk.get, Chunk.size, getD_append]
    by_cases hl : j < l.length <;> simp [hl]
  · rename_i k l
    simp only [Option.some.injEq] at h
    subst h
    exact ⟨by simp [Chunk.size], fun j hj => by rw [if_pos hj]⟩
  · rename_i l
    simp only [Option.some.injEq] at h
    subst h
    exact ⟨by simp [Chunk.size], fun j hj => by rw [if_pos hj]⟩
  · simp only [Option.some.injEq] at h
    subst h
    exact ⟨by simp [Chunk.size], fun j hj => by simp [Chunk.size]⟩
  · simp at h

/-- the cells that an append reads -/
theorem first_run {es n : Nat} {r : Chunk} {V : Value} (h : Src ι w M es r n V) : ∃ cs : Array Value, (Builtin.firstCells es n V).run P w = .ok cs w ∧ cs.size = n * es ∧ (∀ j, j < n * es → VRel ι w M (r.get j) (cs.getD j default)) ∧ ∀ u ∈ cs.toList, u.oneCell' = true := by
  rcases h.2 with ⟨rfl, A, c, rfl⟩ | ⟨a, c, g, rfl, hs, hc, hg⟩
  · refine ⟨#[], ?_, by simp, fun j hj => by simp at hj, by simp⟩
    cases A with
    | none => simp [Builtin.firstCells]
    | some a => simp [Builtin.firstCells, loadCells, loadCellsFrom]
  · refine ⟨((List.range (n * es)).map g).toArray, ?_, ?_, fun j hj => ?_, fun u hu => ?_⟩
    · simp only [Builtin.firstCells]
      exact run_loadCells (P := P) w a (n * es) g (fun j hj => by rw [add_eq a j hs]; exact hc j hj)
    · simp
    · rw [getD_range_map _ _ _ hj]; exact (hg j hj).1
    · simp at hu
      obtain ⟨j, hj, rfl⟩ := hu
      exact (hg j hj).2
theorem bytesP_some {t b : Nat} (h : bytesP P t = some b) : ∃ i, P.info? t = some i ∧ i.bytes = b := by
  unfold bytesP at h
  obtain ⟨i, h1, h2⟩ := Option.map_eq_some_iff.1 h
  exact ⟨i, h1, h2⟩

/-- append, what it comes to: in place, or in a block of its own -/
theorem append_run {t t' ty e es b n m cap : Nat} {A : Option Addr} {Y : Value} {z : List (Nat × AV)} {r1 r2 : Chunk} (hu : P.underlying t = some (.slice e)) (hu' : ∃ e', P.underlying t' = some (.slice e')) (hz : sizeP P e = some es) (hb : bytesP P e = some b) (h0 : 0 < b)
    (hzr : zrl P e = some z) (hzl : rlLen z = es) (hX : Src ι w M es r1 n (.slice A n cap)) (hY : Src ι w M es r2 m Y) (hYl : ∃ B c, Y = .slice B m c) (hle : n ≤ cap) (hfit : (n + m) * b ≤ 140737488355328)
    (hAn : A = none → cap = 0) :
    ∃ N : Array Value, N.size = m * es ∧ (∀ j, j < m * es → VRel ι w M (r2.get j) (N.getD j default)) ∧ (∀ u ∈ N.toList, u.oneCell' = true) ∧
    ((n + m ≤ cap ∧ ∀ R, (match A with
        | some a => (storeCells (a.add (n * es)) N.toList).run P w
        | none => Result.ok () w) = R → (Builtin.append_ #[t, t'] ty #[.slice A n cap, Y]).run P w = R.andThen fun _ w' => .ok (.slice A (n + m) cap) w') ∨
     (cap < n + m ∧ ∃ (nc : Nat) (O : Array Value), n + m ≤ nc ∧ O.size = nc * es ∧ (∀ j, j < n * es → VRel ι w M (r1.get j) (O.getD j default)) ∧ (∀ j, j < m * es → VRel ι w M (r2.get j) (O.getD (n * es + j) default)) ∧
        (Builtin.append_ #[t, t'] ty #[.slice A n cap, Y]).run P w = .ok (.slice (some ⟨w.heap.size, 0, none⟩) (n + m) nc) ((w.drew).alloc (.cells O e)))) := by
  obtain ⟨B, c, rfl⟩ := hYl
  obtain ⟨e', hu'⟩ := hu'
  obtain ⟨N, hN1, hN2, hN3, hN4⟩ := first_run (P := P) hY
  obtain ⟨i, hi1, hi2⟩ := bytesP_some hb
  refine ⟨N, hN2, hN3, hN4, ?_⟩
  rcases Nat.lt_or_ge cap (n + m) with hc | hc
  · refine .inr ⟨hc, ?_⟩
    have hX' : Src ι w.drew M es r1 n (.slice A n cap) := by
      refine ⟨hX.1, ?_⟩
      rcases hX.2 with h | ⟨a, c, g, h1, h2, h3, h4⟩
      · exact .inl h
      · exact .inr ⟨a, c, g, h1, h2, h3, fun j hj => ⟨(h4 j hj).1.mono .drew (fun _ _ h => h), (h4 j hj).2⟩⟩
    have hY' : Src ι w.drew M es r2 m (.slice B m c) := by
      refine ⟨hY.1, ?_⟩
      rcases hY.2 with h | ⟨a, c, g, h1, h2, h3, h4⟩
      · exact .inl h
      · exact .inr ⟨a, c, g, h1, h2, h3, fun j hj => ⟨(h4 j hj).1.mono .drew (fun _ _ h => h), (h4 j hj).2⟩⟩
    obtain ⟨O1, hO1, hO2, hO3, _⟩ := first_run (P := P) hX'
    obtain ⟨N', hN1', hN2', hN3', _⟩ := first_run (P := P) hY'
    obtain ⟨Z, hZ, _, hZ2, hZ3⟩ := zrl_run (ι := ι) (M := M) (w := w.drew) hzr
    let nc := Question.cut (.appendCap (n + m) cap e) (w.tape w.drawn (.appendCap (n + m) cap e))
    have hnc : n + m ≤ nc := by simp only [nc, Question.cut]; omega
    have hcap : ¬ (281474976710656 < Builtin.nextslicecap (n + m) cap * i.bytes) := by
      have := growslice_fits (need := n + m) (old := cap) (bytes := i.bytes) hc (by rw [hi2]; exact hfit)
      omega
    have hti : ∀ w, (typeInfo e).run P w = .ok i w := fun w => by simp [typeInfo, hi1]
    obtain ⟨i', hi3, hi4⟩ := sizeP_some hz
    rw [hi1] at hi3
    cases hi3
    have hzs : Z.cells.size = es := by omega
    have hO : (O1 ++ N' ++ Builtin.zeroCells Z.cells (nc - (n + m))).size = nc * es := by
      simp only [Array.size_append, size_zeroCells, hzs, hO2, hN2', ← Nat.add_mul]
      congr 1
      omega
    refine ⟨nc, O1 ++ N' ++ Builtin.zeroCells Z.cells (nc - (n + m)), hnc, hO, fun j hj => ?_, fun j hj => ?_, ?_⟩
    · have h1 : (O1 ++ N' ++ Builtin.zeroCells Z.cells (nc - (n + m))).getD j default = O1.getD j default := by
        have h2 : j < O1.size := by omega
        simp [Array.getD_eq_getD_getElem?, Array.getElem?_append, h2]
      rw [h1]
      have := hO3 j hj
      exact this.mono Imm.undrew (fun _ _ h => h)
    · have h1 : (O1 ++ N' ++ Builtin.zeroCells Z.cells (nc - (n + m))).getD (n * es + j) default = N'.getD j default := by
        have h2 : n * es + j < O1.size + N'.size := by omega
        have h3 : ¬ n * es + j < O1.size := by omega
        simp only [Array.getD_eq_getD_getElem?, Array.getElem?_append, Array.size_append, h2, if_true, h3, if_false]
        congr 2
        omega
      rw [h1]
      have := hN3' j hj
      exact this.mono Imm.undrew (fun _ _ h => h)
    · have hnot : ¬ (n + m ≤ cap) := by omega
      have hb0 : ¬ (i.bytes = 0) := by omega
      simp [Builtin.append_, run_underlying hu, run_underlying hu', sizeOf, typeInfo, hi1, Builtin.lenOf, hnot, hcap, hi4, hO1, hN1', hb0]
      rw [if_neg (by simp [Question.forced]), hZ, Result.andThen_ok, newRow_run, Result.andThen_ok]
      rfl
  · refine .inl ⟨hc, fun R hR => ?_⟩
    obtain ⟨i', hi3, hi4⟩ := sizeP_some hz
    rw [hi1] at hi3
    cases hi3
    cases A with
    | none =>
      simp only at hR
      subst hR
      simp [Builtin.append_, run_underlying hu, run_underlying hu', sizeOf, typeInfo, hi1, Builtin.lenOf, hc, hi4, hN1]
    | some a =>
      simp only at hR
      subst hR
      simp [Builtin.append_, run_underlying hu, run_underlying hu', sizeOf, typeInfo, hi1, Builtin.lenOf, hc, hi4, hN1]


/-- a handle for a block that is there -/
theorem Rep.handle {h : Nat} {p : Option (Nat × Nat)} (hR : Rep ι s w M) (hn : ι h = none) (hlt : h < s.next) (hg : s.get h = none) : Rep (ι.set h p) s w M := by
  have hx := ι.set_ext h p hn
  have hne : ∀ j c, s.get j = some c → j ≠ h := fun j c hc e => by subst e; rw [hg] at hc; cases hc
  refine ⟨fun j hj => by rw [ι.set_other _ _ _ (by omega)]; exact hR.fresh j hj, fun j c hc => ?_, fun j j' c c' p1 p' hc hc' hd hp hp' => ?_, hR.lt⟩
  · rw [ι.set_other _ _ _ (hne j c hc)]
    rcases hR.own j c hc with h1 | ⟨b, base, h1, h2, h3⟩
    · exact .inl h1
    · exact .inr ⟨b, base, h1, h2, h3.mono (Imm.refl w M) hx rfl⟩
  · rw [ι.set_other _ _ _ (hne j c hc)] at hp
    rw [ι.set_other _ _ _ (hne j' c' hc')] at hp'
    exact hR.inj j j' c c' p1 p' hc hc' hd hp hp'
theorem Go.handle {n0 h : Nat} {p : Option (Nat × Nat)} (hn : n0 ≤ s.next) (hh : n0 ≤ h) (hg : s.get h = none) (hi : ι h = none) : Go n0 ι s w M (ι.set h p) s w M :=
  ⟨Nat.le_refl _, rfl, rfl, rfl, fun _ _ _ => rfl, fun _ _ => rfl, fun _ _ h => h, fun _ h _ => h, fun b hb ho => by
    obtain ⟨j, c, base, h1, h2⟩ := ho
    have hne : j ≠ h := fun e => by subst e; rw [hg] at h1; cases h1
    rw [ι.set_other _ _ _ hne] at h2
    exact ⟨j, c, base, h1, h2⟩, hn, fun j hj => ι.set_other h j p (by omega)⟩

/-- what an operation that may change memory comes to -/
def Does (P : Program) (n0 : Nat) (ι : Iota) (s : St) (w : World) (M : Nat → Prop) (o : Sem Value) (v : AV) (s' : St) : Prop :=
  ∃ V ι' w' M', o.run P w = .ok V w' ∧ VRel ι' w' M' v V ∧ Rep ι' s' w' M' ∧ Go n0 ι s w M ι' s' w' M' ∧ (∀ h p, ι h = some p → ι' h = some p) ∧ Imm w M w' M'

/-- a row of the call's own for a new handle -/
theorem new_row {es n : Nat} {c : Chunk} {O : Array Value} {e nc : Nat} {n0 : Nat} (hR : Rep ι s w M) (hn : n0 ≤ s.next) (hO : O.size = nc * es) (hnc : n ≤ nc) (hc : c.size = n * es) (hcell : ∀ j, j < c.size → VRel ι w M (c.get j) (O.getD j default)) :
    ∃ ι' M', VRel ι' (w.alloc (.cells O e)) M' (.sl es s.next 0 n) (.slice (some ⟨w.heap.size, 0, none⟩) n nc) ∧ Rep ι' ⟨s.next + 1, (s.next, some c) :: s.m⟩ (w.alloc (.cells O e)) M' ∧
      Go n0 ι s w M ι' ⟨s.next + 1, (s.next, some c) :: s.m⟩ (w.alloc (.cells O e)) M' ∧ (∀ h p, ι h = some p → ι' h = some p) ∧ Imm w M (w.alloc (.cells O e)) M' := by
  have hi : ι s.next = none := hR.fresh _ (Nat.le_refl _)
  have hg : s.get s.next = none := by
    cases h : s.get s.next with
    | none => rfl
    | some c => exact absurd (hR.none_of_get h) (by omega)
  have hR1 : Rep ι ⟨s.next + 1, s.m⟩ w M := hR.next (by omega)
  have hR2 := Rep.alloc (cs := O) (T := e) (h := s.next) hR1 hi (by simp) hg
  have hx := ι.set_ext s.next (some (w.heap.size, 0)) hi
  have hI := Imm.alloc (w := w) (M := M) (.cells O e)
  refine ⟨ι.set s.next (some (w.heap.size, 0)), addM M w.heap.size, ?_, ?_, ?_, hx, hI⟩
  · exact .sl es s.next 0 n w.heap.size 0 0 nc e O.size (ι.set_same _ _) (.inl rfl) hnc (shape_alloc O e) (by omega)
  · refine hR2.put (.inr ⟨w.heap.size, 0, ι.set_same _ _, .inr rfl, ⟨O, e, (0, 0), heap_alloc_new w _, fun i _ => by omega, ?_, fun j hj => ?_⟩, fun j c' p hne hc' hp => ?_⟩)
    · have : n * es ≤ nc * es := Nat.mul_le_mul_right _ hnc
      omega
    · rw [Nat.zero_add]
      exact (hcell j hj).mono hI hx
    · rw [ι.set_other _ _ _ hne] at hp
      have hM := hR.ownM ⟨j, c', p.2, hc', hp⟩
      have := hR.lt _ hM
      omega
  · have hgo := Go.alloc (n0 := n0) (h := s.next) (o := .cells O e) (p := some (w.heap.size, 0)) (ι := ι) (s := s) (w := w) (M := M) hn hn hg hi
    refine ⟨hgo.size, hgo.tape, hgo.os, hgo.output, hgo.block, hgo.shape, hgo.back, hgo.keep, fun b hb ho => ?_, by simp only; omega, hgo.ext⟩
    obtain ⟨j, c', base, h1, h2⟩ := ho
    rw [St.get_cons] at h1
    split at h1
    · rename_i he
      subst he
      rw [ι.set_same] at h2
      simp only [Option.some.injEq, Prod.mk.injEq] at h2
      omega
    · rename_i he
      rw [ι.set_other _ _ _ (fun e => he e.symm)] at h2
      exact ⟨j, c', base, h1, h2⟩

end
end Go.Ab
